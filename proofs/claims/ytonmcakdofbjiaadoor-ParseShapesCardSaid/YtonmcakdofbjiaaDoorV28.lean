/-
  The parts: base Rsh2 base Rsh6 base Rsh7 base Rsh8 base Rst1
-/
import Derived.Test.YtonmcakdofbjiaaDoorV27
import Derived.Deep.Cut
import Derived.Test.YtonmcakdofbjiaaDoorProg
import Derived.WalkKit
import Derived.RowKitTokens
set_option linter.unusedVariables false
set_option linter.unusedSimpArgs false
set_option linter.unusedSectionVars false
set_option linter.unnecessarySimpa false
set_option maxRecDepth 100000
set_option maxHeartbeats 8000000
namespace Go.Proofs.YtonmcakdofbjiaaDoor
open Go.RowKit
theorem rholds_any (depth kind has k : Int) (w : World) : Calls Tryd.prog 17 #[.agg #[.int .i64 depth, .int .i64 kind, .int .i64 has], .int .i64 k] w fun e w' => e = .returned (.bool (rholds ⟨depth, kind, has⟩ k)) /\ Kin w w' := by
 have K1 := Lib.hid ((Kin.refl w).alloc (.cells #[.int .i64 depth, .int .i64 kind, .int .i64 has] 47))
 by_cases h9 : kind = 9
 · subst h9
   have hr : rholds ⟨depth, 9, has⟩ k = isStmtB k := by simp [rholds]
   rw [hr]
   clear hr
   go_enter Tryd.func17, Tryd.ntmps17
   go_wp2_with (go_at_call 16; with_reducible refine (risStmt_any _ _).mono ?_; rintro e w3 ⟨rfl, rfl⟩)
   go_ret
   exact ⟨rfl, K1.out⟩
 · by_cases h7 : kind = 7
   · subst h7
     by_cases h0 : has = 0
     · subst h0
       have hr : rholds ⟨depth, 7, 0⟩ k = isExprB k := by simp [rholds]
       rw [hr]
       clear hr
       generalize hb : isExprB k = b
       have HB : Hid (∀ w, Calls Tryd.prog 29 #[.int .i64 k] w fun e w' => e = .returned (.bool b) /\ w' = w) := Lib.hid (fun w => by rw [<- hb]; exact risExpr_any k w)
       clear hb
       cases b
       all_goals
         go_enter Tryd.func17, Tryd.ntmps17
         go_wp2_with (go_at_call 29; with_reducible refine (HB.out _).mono ?_; rintro e w3 ⟨rfl, rfl⟩)
         go_ret
         exact ⟨rfl, K1.out⟩
     · by_cases h1 : has = 1
       · subst h1
         have hr : rholds ⟨depth, 7, 1⟩ k = decide (k = 9) := by simp [rholds]
         rw [hr]
         clear hr
         go_enter Tryd.func17, Tryd.ntmps17
         go_wp2_with fail
         all_goals
           go_ret
           exact ⟨by first | rfl | simp_all, K1.out⟩
       · by_cases h2 : has = 2
         · subst h2
           have hr : rholds ⟨depth, 7, 2⟩ k = decide (k = 9) := by simp [rholds]
           rw [hr]
           clear hr
           go_enter Tryd.func17, Tryd.ntmps17
           go_wp2_with fail
           all_goals
             go_ret
             exact ⟨by first | rfl | simp_all, K1.out⟩
         · have hr : rholds ⟨depth, 7, has⟩ k = false := by simp [rholds, h0, h1, h2]
           rw [hr]
           clear hr
           have b0 : (has == 0) = false := by simpa using h0
           have b1 : (has == 1) = false := by simpa using h1
           have b2 : (has == 2) = false := by simpa using h2
           go_enter Tryd.func17, Tryd.ntmps17
           go_wp2_with fail
           go_ret
           exact ⟨rfl, K1.out⟩
   · by_cases h8 : kind = 8
     · subst h8
       by_cases h0 : has = 0
       · subst h0
         have hr : rholds ⟨depth, 8, 0⟩ k = isExprB k := by simp [rholds]
         rw [hr]
         clear hr
         generalize hb : isExprB k = b
         have HB : Hid (∀ w, Calls Tryd.prog 29 #[.int .i64 k] w fun e w' => e = .returned (.bool b) /\ w' = w) := Lib.hid (fun w => by rw [<- hb]; exact risExpr_any k w)
         clear hb
         cases b
         all_goals
           go_enter Tryd.func17, Tryd.ntmps17
           go_wp2_with (go_at_call 29; with_reducible refine (HB.out _).mono ?_; rintro e w3 ⟨rfl, rfl⟩)
           go_ret
           exact ⟨rfl, K1.out⟩
       · by_cases h1 : has = 1
         · subst h1
           have hr : rholds ⟨depth, 8, 1⟩ k = decide (k = 9) := by simp [rholds]
           rw [hr]
           clear hr
           go_enter Tryd.func17, Tryd.ntmps17
           go_wp2_with fail
           all_goals
             go_ret
             exact ⟨by first | rfl | simp_all, K1.out⟩
         · have hr : rholds ⟨depth, 8, has⟩ k = false := by simp [rholds, h0, h1]
           rw [hr]
           clear hr
           have b0 : (has == 0) = false := by simpa using h0
           have b1 : (has == 1) = false := by simpa using h1
           go_enter Tryd.func17, Tryd.ntmps17
           go_wp2_with fail
           go_ret
           exact ⟨rfl, K1.out⟩
     · have hr : rholds ⟨depth, kind, has⟩ k = (decide (has < rwants kind) && isExprB k) := by simp [rholds, h7, h8, h9]
       rw [hr]
       clear hr
       have b7 : (kind == 7) = false := by simpa using h7
       have b8 : (kind == 8) = false := by simpa using h8
       have b9 : (kind == 9) = false := by simpa using h9
       clear h7 h8 h9
       generalize hb : isExprB k = b
       have HB : Hid (∀ w, Calls Tryd.prog 29 #[.int .i64 k] w fun e w' => e = .returned (.bool b) /\ w' = w) := Lib.hid (fun w => by rw [<- hb]; exact risExpr_any k w)
       clear hb
       generalize hx : rwants kind = x
       have HX : Hid (∀ w, Calls Tryd.prog 14 #[.int .i64 kind] w fun e w' => e = .returned (.int .i64 x) /\ w' = w) := Lib.hid (fun w => by rw [<- hx]; exact rwants_any kind w)
       clear hx
       by_cases hlt : has < x
       · rw [decide_eq_true hlt]
         go_enter Tryd.func17, Tryd.ntmps17
         go_wp2_with fail
         go_quiet (first | (go_at_call 29; exact Calls.quiet_of_same (HB.out _)) | (go_at_call 14; exact Calls.quiet_of_same (HX.out _)))
         go_wp2
         go_ret
         exact ⟨by cases b <;> rfl, K1.out.drewN _⟩
       · rw [decide_eq_false hlt]
         have hge : x <= has := Int.not_lt.1 hlt
         have hd : decide (has < x) = false := decide_eq_false hlt
         have hp : (has < x) = False := eq_false hlt
         clear hlt
         go_enter Tryd.func17, Tryd.ntmps17
         go_wp2_with fail
         go_quiet (first | (go_at_call 29; exact Calls.quiet_of_same (HB.out _)) | (go_at_call 14; exact Calls.quiet_of_same (HX.out _)))
         go_wp2
         go_ret
         exact ⟨rfl, K1.out.drewN _⟩
end Go.Proofs.YtonmcakdofbjiaaDoor
namespace Go.Proofs.YtonmcakdofbjiaaDoor
open Go.RowKit
def opC (o : Opn) : List Value := [.int .i64 o.depth, .int .i64 o.kind, .int .i64 o.has]
def opCells (st : List Opn) : List Value := st.flatMap opC
theorem opCells_len (st : List Opn) : (opCells st).length = st.length * 3 := by
 induction st with
 | nil => rfl
 | cons x l ih =>
   have e : opCells (x :: l) = opC x ++ opCells l := by simp [opCells]
   rw [e, List.length_append, ih]
   show 3 + _ = (l.length + 1) * 3
   omega
theorem opCells_app (a b : List Opn) : opCells (a ++ b) = opCells a ++ opCells b := by simp [opCells]
theorem op_get {L : List Opn} {j : Nat} {t : Opn} (h : L[j]? = some t) (k : Nat) (hk : k < 3) : (opCells L)[j * 3 + k]? = (opC t)[k]? := by
 induction L generalizing j with
 | nil => simp at h
 | cons x l ih =>
   have e : opCells (x :: l) = opC x ++ opCells l := by simp [opCells]
   have hl : (opC x).length = 3 := rfl
   rw [e]
   cases j with
   | zero =>
     simp at h
     subst h
     rw [List.getElem?_append_left (by omega)]
     congr 1
     omega
   | succ j =>
     rw [List.getElem?_append_right (by omega), <- ih (j := j) (by simpa using h)]
     congr 1
     omega
def OwnSt (w : World) (B : Nat) (v : Value) (st : List Opn) : Prop := w.ownsRow B 47 3 v st.length (opCells st)
section
variable {w w' : World} {B g cap m : Nat} {v : Value} {st : List Opn}
theorem OwnSt.nil (w : World) (B : Nat) : OwnSt w B (.slice none 0 0) [] := World.ownsRow_nil _ _ _ _
theorem OwnSt.slice (h : OwnSt w B v st) : ∃ b cap, v = .slice b st.length cap := by
 rcases h.2 with ⟨rfl, hn⟩ | ⟨g, cap, cur, rfl, _⟩
 · exact ⟨none, 0, by rw [hn]⟩
 · exact ⟨_, cap, rfl⟩
theorem OwnSt.form (h : OwnSt w B v st) (hm : st.length = m + 1) : ∃ g cap, v = .slice (some ⟨g, 0, none⟩) (m + 1) cap /\ B <= g /\ g < w.heap.size /\ m + 1 <= cap := by
 rcases h.2 with ⟨rfl, hn⟩ | ⟨g, cap, cur, rfl, hb, hg, hc, _⟩
 · omega
 · exact ⟨g, cap, by rw [hm], hb, (Array.getElem?_eq_some_iff.1 hg).1, by omega⟩
theorem OwnSt.cell (h : OwnSt w B (.slice (some ⟨g, 0, none⟩) (m + 1) cap) st) {j : Nat} {o : Opn} (ho : st[j]? = some o) :
   w.cell? ⟨g, j * 3, none⟩ = some (.int .i64 o.depth) /\ w.cell? ⟨g, j * 3 + 1, none⟩ = some (.int .i64 o.kind) /\ w.cell? ⟨g, j * 3 + 2, none⟩ = some (.int .i64 o.has) := by
 have hj := (List.getElem?_eq_some_iff.1 ho).1
 have e : ∀ k, (⟨g, 0, none⟩ : Addr).add k = ⟨g, k, none⟩ := fun k => by unfold Addr.add; split <;> simp_all
 have key : ∀ (k : Nat) (x : Value), k < 3 -> (opC o)[k]? = some x -> w.cell? ⟨g, j * 3 + k, none⟩ = some x := fun k x hk hx => by
   have := World.ownsRow.cells h (g := g) rfl (j * 3 + k) x ((op_get ho k hk).trans hx)
   rw [e] at this
   exact this
 exact ⟨key 0 _ (by omega) rfl, key 1 _ (by omega) rfl, key 2 _ (by omega) rfl⟩
theorem OwnSt.froz (h : OwnSt w B (.slice (some ⟨g, 0, none⟩) (m + 1) cap) st) (hm : st.length = m + 1) (j : Nat) : w.frozen? ⟨g, j, none⟩ = false := by
 have h' : w.ownsRow B 47 3 (.slice (some ⟨g, 0, none⟩) (m + 1) cap) (m + 1) (opCells st) := by
   have h2 : w.ownsRow B 47 3 (.slice (some ⟨g, 0, none⟩) (m + 1) cap) st.length (opCells st) := h
   rw [hm] at h2
   exact h2
 exact h'.frozenAt j
theorem OwnSt.pop (h : OwnSt w B (.slice (some ⟨g, 0, none⟩) (m + 1) cap) st) (hm : st.length = m + 1) : OwnSt w B (.slice (some ⟨g, 0, none⟩) m cap) (st.take m) := by
 have hl : (st.take m).length = m := by simp; omega
 obtain ⟨_, h2⟩ := h
 rcases h2 with ⟨h0, _⟩ | ⟨g', cap', cur, hv, hg, hh, hn, hcap, hsz, htake⟩
 · cases h0
 · simp only [Value.slice.injEq, Option.some.injEq, Addr.mk.injEq, and_true] at hv
   obtain ⟨rfl, _, rfl⟩ := hv
   refine ⟨opCells_len _, .inr ⟨g, cap, cur, by rw [hl], hg, hh, by omega, hcap, hsz, ?_⟩⟩
   have e : opCells st = opCells (st.take m) ++ opCells (st.drop m) := by rw [<- opCells_app, List.take_append_drop]
   rw [e] at htake
   have hx : (opCells (st.take m)).length = m * 3 := by rw [opCells_len, hl]
   have h3 := congrArg (List.take (m * 3)) htake
   rw [List.take_take, Nat.min_eq_left (by omega)] at h3
   have h4 : (opCells (st.take m) ++ opCells (st.drop m)).take (m * 3) = opCells (st.take m) := by rw [<- hx]; exact List.take_left ..
   rw [hl, h3, h4]
theorem OwnSt.kin (h : OwnSt w B v st) (k : Kin w w') : OwnSt w' B v st := by
 refine ⟨h.1, ?_⟩
 rcases h.2 with hn | ⟨g, cap, cur, rfl, hb, hgg, rest⟩
 · exact .inl hn
 · exact .inr ⟨g, cap, cur, rfl, hb, (k.block g (Array.getElem?_eq_some_iff.1 hgg).1).trans hgg, rest⟩
theorem OwnSt.setHas (h : OwnSt w B (.slice (some ⟨g, 0, none⟩) (m + 1) cap) st) (hm : st.length = m + 1) {o : Opn} (ho : st[m]? = some o) (x : Int) : OwnSt (w.setCell ⟨g, m * 3 + 2, none⟩ (.int .i64 x)) B (.slice (some ⟨g, 0, none⟩) (m + 1) cap) (st.take m ++ [{ o with has := x }]) := by
 have h' : w.ownsRow B 47 3 (.slice (some ⟨g, 0, none⟩) (m + 1) cap) (m + 1) (opCells st) := by
   have h2 : w.ownsRow B 47 3 (.slice (some ⟨g, 0, none⟩) (m + 1) cap) st.length (opCells st) := h
   rw [hm] at h2
   exact h2
 have hs := (h'.stored (m * 3 + 2) (.int .i64 x)).1
 have hst : st = st.take m ++ [o] := by
   have := List.take_append_drop m st
   have hd : st.drop m = [o] := by
     rw [List.drop_eq_getElem_cons (by omega)]
     have h1 : st[m]'(by omega) = o := by
       have := List.getElem?_eq_getElem (l := st) (i := m) (by omega)
       rw [ho] at this
       exact (Option.some.inj this).symm
     rw [h1, List.drop_eq_nil_of_le (by omega)]
   rw [<- hd, this]
 have e : (opCells st).set (m * 3 + 2) (.int .i64 x) = opCells (st.take m ++ [{ o with has := x }]) := by
   have hx : (opCells (st.take m)).length = m * 3 := by rw [opCells_len]; simp; omega
   conv => lhs; rw [hst]
   rw [opCells_app, opCells_app, List.set_append_right _ _ (by omega), hx]
   congr 1
   have : m * 3 + 2 - m * 3 = 2 := by omega
   rw [this]
   simp [opCells, opC]
 have hl : (st.take m ++ [({ o with has := x } : Opn)]).length = m + 1 := by simp; omega
 unfold OwnSt
 rw [hl, <- e]
 exact hs
end
end Go.Proofs.YtonmcakdofbjiaaDoor
namespace Go.Proofs.YtonmcakdofbjiaaDoor
open Go.RowKit
theorem rcut_is {d : Int} {st : List Opn} {m : Nat} (h1 : m = 0 \/ ∃ x, st[m - 1]? = some x /\ x.depth < d) (h2 : ∀ (j : Nat) (y : Opn), m <= j -> st[j]? = some y -> d <= y.depth) : rcut d st = m := by
 unfold rcut
 refine cutN_of ?_ fun j y hj hy => ?_
 · rcases h1 with h | ⟨x, hx, hd⟩
   · exact .inl h
   · exact .inr ⟨x, hx, decide_eq_true hd⟩
 · have := h2 j y hj hy
   exact decide_eq_false (by omega)
theorem rcut_le {d : Int} {st : List Opn} {m : Nat} (h2 : ∀ (j : Nat) (y : Opn), m <= j -> st[j]? = some y -> d <= y.depth) : rcut d st <= m := by
 unfold rcut
 rcases cutN_last (fun t : Opn => decide (t.depth < d)) st with h | ⟨x, hx, hd⟩
 · omega
 · rcases Nat.lt_or_ge m (cutN (fun t : Opn => decide (t.depth < d)) st) with h' | h'
   · have := h2 _ x (by omega) hx
     have hd' : x.depth < d := by simpa using hd
     omega
   · exact h'
theorem rstand_lacks {st : List Opn} {begun : Bool} {n : Nd} {m : Nat} {o : Opn} (ho : st[m]? = some o) (hl : lacks o = true) (h2 : ∀ (j : Nat) (y : Opn), m <= j -> st[j]? = some y -> n.depth <= y.depth) : rstandF st begun n = none := by
 unfold rstandF
 rw [if_pos]
 rw [List.any_eq_true]
 have hc := rcut_le h2
 exact ⟨o, List.mem_iff_getElem?.2 ⟨m - rcut n.depth st, by rw [List.getElem?_drop, show rcut n.depth st + (m - rcut n.depth st) = m from by omega]; exact ho⟩, hl⟩
theorem rdrop_no {st : List Opn} {m : Nat} (h : ∀ (j : Nat) (y : Opn), m <= j -> st[j]? = some y -> lacks y = false) : ¬ ((st.drop m).any lacks = true) := by
 rw [List.any_eq_true]
 rintro ⟨y, hy, hl⟩
 obtain ⟨j, hj⟩ := List.mem_iff_getElem?.1 hy
 rw [List.getElem?_drop] at hj
 rw [h _ y (by omega) hj] at hl
 cases hl
theorem OwnSt.take {w : World} {B cap M : Nat} {b : Option Addr} {st : List Opn} (h : OwnSt w B (.slice b M cap) st) (hM : st.length = M) {m : Nat} (hm : m <= M) : OwnSt w B (.slice b m cap) (st.take m) := by
 have key : ∀ k M b (st : List Opn), OwnSt w B (.slice b M cap) st -> st.length = M -> M = m + k -> OwnSt w B (.slice b m cap) (st.take m) := by
   intro k
   induction k with
   | zero => intro M b st h hM e; obtain rfl : M = m := by omega
             rw [List.take_of_length_le (by omega)]; exact h
   | succ k ih =>
     intro M b st h hM e
     obtain ⟨M', rfl⟩ : ∃ M', M = M' + 1 := ⟨m + k, by omega⟩
     obtain ⟨g, cap', hv, _⟩ := h.form hM
     cases hv
     have := ih M' _ _ (h.pop hM) (by simp; omega) (by omega)
     rw [List.take_take, Nat.min_eq_left (by omega)] at this
     exact this
 exact key (M - m) M b st h hM (by omega)
end Go.Proofs.YtonmcakdofbjiaaDoor
namespace Go.Proofs.YtonmcakdofbjiaaDoor
open Go.RowKit
theorem rstand_top {st : List Opn} {begun : Bool} {n : Nd} (h : ∀ (j : Nat) (y : Opn), 0 <= j -> st[j]? = some y -> n.depth <= y.depth /\ lacks y = false) :
   rstandF st begun n = if n.depth ≠ 1 \/ fieldsB n = false then none else if ((n.kind = 0 \/ n.kind = 1) /\ begun = true) \/ (¬(n.kind = 0 \/ n.kind = 1) /\ isStmtB n.kind = false) then none else some ([], begun || !(decide (n.kind = 0 \/ n.kind = 1))) := by
 have hc : rcut n.depth st = 0 := rcut_is (.inl rfl) fun j y hj hy => (h j y hj hy).1
 unfold rstandF
 rw [hc, if_neg (rdrop_no fun j y hj hy => (h j y hj hy).2)]
 rfl
theorem rstand_in {st : List Opn} {begun : Bool} {n : Nd} {m : Nat} {o : Opn} (ho : st[m]? = some o) (hd : o.depth < n.depth) (h : ∀ (j : Nat) (y : Opn), m + 1 <= j -> st[j]? = some y -> n.depth <= y.depth /\ lacks y = false) :
   rstandF st begun n = if n.depth ≠ ((m + 1 : Nat) : Int) + 1 \/ fieldsB n = false then none else if rholds o n.kind = false then none else some (st.take m ++ [{ o with has := o.has + 1 }], begun) := by
 have hc : rcut n.depth st = m + 1 := rcut_is (.inr ⟨o, ho, hd⟩) fun j y hj hy => (h j y hj hy).1
 unfold rstandF
 rw [hc, if_neg (rdrop_no fun j y hj hy => (h j y hj hy).2)]
 simp only [ho]
theorem rshape_step {st : List Opn} {begun : Bool} {k : Nat} {n : Nd} {l : List Nd} (hn : l[k]? = some n) : rshapeG st begun k (l.drop k) = match rstandF st begun n with
   | none => (33, (k : Int))
   | some (st', b') => if 24 < n.depth then (31, (k : Int)) else rshapeG (rpush st' n) b' (k + 1) (l.drop (k + 1)) := by
 have hk := (List.getElem?_eq_some_iff.1 hn).1
 have e : l.drop k = n :: l.drop (k + 1) := by
   rw [List.drop_eq_getElem_cons hk]
   congr 1
   exact (List.getElem?_eq_some_iff.1 hn).2
 rw [e, rshapeG]
 rfl
theorem Kin.grown {w W W' : World} {row : Option Nat} (h : Kin w W) (g : W.grownBy W' row) (hr : ∀ k, row = some k -> w.heap.size <= k) : Kin w W' :=
 ⟨g.os.trans h.os, g.output.trans h.out, Nat.le_trans h.size g.size, fun k hk => (g.block k (Nat.lt_of_lt_of_le hk h.size) (fun e => by have := hr k e.symm; omega)).trans (h.block k hk)⟩
theorem info105 : (Tryd.prog.info? 47).map (fun i => (i.zero, i.size, i.bytes)) = some (some (.agg #[.int .i64 0, .int .i64 0, .int .i64 0]), 3, 24) := by kernel_rfl
theorem newOp (w : World) (n : Opn) : ∀ (j : Nat) (u : Value), (opC n)[j]? = some u -> (w.alloc (.cells #[.int .i64 n.depth, .int .i64 n.kind, .int .i64 n.has] 47)).cell? ((⟨w.heap.size, 0, none⟩ : Addr).add j) = some u := by
 intro j u hj
 match j, hj with
 | 0, hj => simp [opC] at hj; subst hj; simp [go_sem, Addr.add]
 | 1, hj => simp [opC] at hj; subst hj; simp [go_sem, Addr.add]
 | 2, hj => simp [opC] at hj; subst hj; simp [go_sem, Addr.add]
 | n + 3, hj => simp [opC] at hj
theorem cellOp (n : Opn) : ∀ u ∈ opC n, u.oneCell' = true := by
 intro u hu
 simp only [opC, List.mem_cons, List.not_mem_nil, or_false] at hu
 rcases hu with rfl | rfl | rfl <;> rfl
theorem OwnSt.pushed {w1 : World} {B : Nat} {v1 : Value} {st : List Opn} (o : Opn) (h : w1.ownsRow B 47 3 v1 (st.length + 1) (opCells st ++ opC o)) : OwnSt w1 B v1 (st ++ [o]) := by
 unfold OwnSt
 rw [List.length_append, opCells_app]
 simpa [opCells] using h
theorem rshape_any (l : List Nd) (hlim : ∀ n ∈ l, n.name.size <= 140737488355328) (hlen : l.length <= 9223372036854775807) (v : Value) (w : World) (hv : NodesAt w v l) :
   Calls Tryd.prog 7 #[v] w fun e w' => e = .returned (.tuple #[.int .i64 (rshapeF l).1, .int .i64 (rshapeF l).2]) /\ Kin w w' := by
 have HV := Lib.hid hv
 obtain ⟨b, cap, rfl, hcap, hne⟩ := hv
 clear hne
 by_cases hbig : 300 < l.length
 · have hr : rshapeF l = (32, 300) := by unfold rshapeF; rw [if_pos hbig]
   rw [hr]
   clear hr
   go_enter Tryd.func7, Tryd.ntmps7
   go_wp2_with fail
   go_ret2
   exact ⟨rfl, Kin.refl _⟩
 · have hr : rshapeF l = rshapeG [] false 0 l := by unfold rshapeF; rw [if_neg hbig]
   rw [hr]
   generalize hRR : rshapeG [] false 0 l = RR
   obtain ⟨rc, rp⟩ := RR
   have HRR := Lib.hid hRR
   have HLIM := Lib.hid hlim
   clear hr hRR hlim hcap
   dsimp only
   go_enter Tryd.func7, Tryd.ntmps7
   go_wp2_with fail
   go_loopg [4, 5, 6] l.length (fun g x y z wq => ∃ (k : Nat) (st : List Opn) (begun : Bool), y = .bool begun /\ z = .int .i64 k /\ k <= l.length /\ g = l.length - k /\ OwnSt wq w.heap.size x st /\ Kin w wq /\ st.length <= 24 /\ (∀ o ∈ st, 0 <= o.has /\ o.has <= k) /\ rshapeG st begun k (l.drop k) = (rc, rp))
   case atStart => exact ⟨0, [], false, rfl, rfl, Nat.zero_le _, rfl, OwnSt.nil _ _, Kin.refl _, by decide, (fun o ho => by cases ho), HRR.out⟩
   case round =>
     obtain ⟨k, st, begun, rfl, rfl, hk, hg, hown, hkin, hst, hhas, hG⟩ := hrel
     obtain ⟨wr0, hwr0⟩ : ∃ wr0, wr0 = wr := ⟨_, rfl⟩
     subst hwr0
     obtain ⟨bs, caps, rfl⟩ := hown.slice
     have HO := Lib.hid hown
     have HK := Lib.hid hkin
     have HH := Lib.hid hhas
     have HG := Lib.hid hG
     have HGG := Lib.hid hg
     clear hown hkin hhas hG hg
     by_cases hlt : k < l.length
     · obtain ⟨⟨d, kd, nm, nu, op, at_⟩, hn⟩ : ∃ n, l[k]? = some n := ⟨_, List.getElem?_eq_getElem hlt⟩
       obtain ⟨gl, off, rfl, hcell⟩ := HV.out.at (by rintro rfl; simp at hlt)
       have cells : ∀ (x : Nat) (u : Value), (Nd.mk d kd nm nu op at_).cells[x]? = some u -> wr0.cell? ⟨gl, off + k * 6 + x, none⟩ = some u := fun x u hu => by
         have := hcell k _ hn x u hu
         exact (HK.out.cell (World.block_lt_of_cell? w _ this)).trans this
       have r0 := cells 0 _ rfl
       have r1 := cells 1 _ rfl
       have r2 := cells 2 _ rfl
       have r3 := cells 3 _ rfl
       have r4 := cells 4 _ rfl
       have r5 := cells 5 _ rfl
       simp only [Nat.add_zero] at r0
       have HN := Lib.hid hn
       clear cells hcell hn
       go_wp2_with fail
       have hWB : ∃ WB, WB = wr0.alloc (.cells #[.int .i64 d, .int .i64 kd, .string nm, .int .i64 nu, .int .i64 op, .int .i64 at_] 26) := ⟨_, rfl⟩
       obtain ⟨WB, hWB⟩ := hWB
       have KB : Kin wr0 WB := by rw [hWB]; exact (Kin.refl wr0).alloc _
       have b0 : WB.cell? ⟨wr0.heap.size, 0, none⟩ = some (.int .i64 d) := by rw [hWB]; simp [go_sem]
       have b1 : WB.cell? ⟨wr0.heap.size, 1, none⟩ = some (.int .i64 kd) := by rw [hWB]; simp [go_sem]
       have b2 : WB.cell? ⟨wr0.heap.size, 2, none⟩ = some (.string nm) := by rw [hWB]; simp [go_sem]
       have b3 : WB.cell? ⟨wr0.heap.size, 3, none⟩ = some (.int .i64 nu) := by rw [hWB]; simp [go_sem]
       have b4 : WB.cell? ⟨wr0.heap.size, 4, none⟩ = some (.int .i64 op) := by rw [hWB]; simp [go_sem]
       have b5 : WB.cell? ⟨wr0.heap.size, 5, none⟩ = some (.int .i64 at_) := by rw [hWB]; simp [go_sem]
       have HKB := Lib.hid KB
       have HOB := Lib.hid (HO.out.kin KB)
       clear r0 r1 r2 r3 r4 r5 KB
       have hb : wr0.heap.size < WB.heap.size := World.block_lt_of_cell? WB _ b0
       have HB0 := Lib.hid b0
       have HB1 := Lib.hid b1
       have HB2 := Lib.hid b2
       have HB3 := Lib.hid b3
       have HB4 := Lib.hid b4
       have HB5 := Lib.hid b5
       clear b0 b1 b2 b3 b4 b5
       rw [<- hWB]
       clear hWB
       generalize hNB : wr0.heap.size = nb at hb HB0 HB1 HB2 HB3 HB4 HB5 ⊢
       have HNB := Lib.hid hNB
       clear hNB
       generalize hM : st.length = M at hst HOB ⊢
       have HM := Lib.hid hM
       clear hM
       go_loopg [4] M (fun g x wq => ∃ m : Nat, x = .slice bs m caps /\ m <= M /\ g = m /\ Kin WB wq /\ ∀ (j : Nat) (y : Opn), m <= j -> st[j]? = some y -> d <= y.depth /\ lacks y = false)
       case atStart => exact ⟨M, rfl, Nat.le_refl _, rfl, Kin.refl _, fun j y hj hy => by have := (List.getElem?_eq_some_iff.1 hy).1; have := HM.out; omega⟩
       case round =>
         obtain ⟨m, rfl, hm, hg, hkq, hbig2⟩ := hrel
         have HGM := Lib.hid hg
         have HKQ := Lib.hid hkq
         have HBIG := Lib.hid hbig2
         have HKW := Lib.hid (HK.out.trans HKB.out)
         have HQ := Lib.hid (fun W (K : Kin WB W) => (⟨(K.cell hb).trans HB0.out, (K.cell hb).trans HB1.out, (K.cell hb).trans HB2.out, (K.cell hb).trans HB3.out, (K.cell hb).trans HB4.out, (K.cell hb).trans HB5.out⟩ : W.cell? ⟨nb, 0, none⟩ = some (.int .i64 d) /\ W.cell? ⟨nb, 1, none⟩ = some (.int .i64 kd) /\ W.cell? ⟨nb, 2, none⟩ = some (.string nm) /\ W.cell? ⟨nb, 3, none⟩ = some (.int .i64 nu) /\ W.cell? ⟨nb, 4, none⟩ = some (.int .i64 op) /\ W.cell? ⟨nb, 5, none⟩ = some (.int .i64 at_)))
         have HS := Lib.hid (fun W (K : Kin WB W) => OwnSt.take (HOB.out.kin K) HM.out hm)
         clear hg hkq hbig2 HB0 HB1 HB2 HB3 HB4 HB5
         rcases Nat.eq_zero_or_pos m with hm0 | hmp
         · subst hm0
           have HR := Lib.hid (rstand_top (begun := begun) (n := ⟨d, kd, nm, nu, op, at_⟩) HBIG.out)
           simp only at HR
           go_wp2_with fail
           go_quiet (fail)
           rename_i nq
           have K1 : Kin WB (wr.drewN nq) := HKQ.out.drewN nq
           generalize wr.drewN nq = W1 at K1 ⊢
           obtain ⟨q0, q1, q2, q3, q4, q5⟩ := HQ.out W1 K1
           by_cases hd1 : d = 1
           · subst hd1
             have HF : Hid (∀ W, Calls Tryd.prog 15 #[.agg #[.int .i64 1, .int .i64 kd, .string nm, .int .i64 nu, .int .i64 op, .int .i64 at_]] W fun e w' => e = .returned (.bool (fieldsB ⟨1, kd, nm, nu, op, at_⟩)) /\ Kin W w') := Lib.hid (fun W => rfields_any ⟨1, kd, nm, nu, op, at_⟩ (HLIM.out _ (List.mem_of_getElem? HN.out)) W)
             cases hfb : fieldsB ⟨1, kd, nm, nu, op, at_⟩ with
             | false =>
               rw [hfb] at HF HR
               have hres := HG.out
               rw [rshape_step HN.out, HR.out, if_pos (.inr rfl)] at hres
               obtain ⟨rfl, rfl⟩ := Prod.mk.inj (show ((33 : Int), (k : Int)) = (rc, rp) from hres)
               go_wp2_with (first | (go_at_call 15; with_reducible refine (HF.out _).mono ?_; rintro e W2 ⟨rfl, K2⟩; obtain ⟨p0, p1, p2, p3, p4, p5⟩ := HQ.out W2 (K1.trans K2)))
               go_ret2
               exact ⟨rfl, (HKW.out.trans K1).trans K2⟩
             | true =>
               rw [hfb] at HF HR
               rw [if_neg (by simp)] at HR
               have HH2 : Hid (∀ oo ∈ ([] : List Opn), 0 <= oo.has /\ oo.has <= (k : Int)) := Lib.hid (fun oo hoo => by cases hoo)
               have HST := Lib.hid (fun W => risStmt_any kd W)
               have C55 : True := trivial
               by_cases hk01 : kd = 0 \/ kd = 1
               · cases begun with
                 | true =>
                   have hres := HG.out
                   rw [rshape_step HN.out, HR.out, if_pos (.inl ⟨hk01, rfl⟩)] at hres
                   obtain ⟨rfl, rfl⟩ := Prod.mk.inj (show ((33 : Int), (k : Int)) = (rc, rp) from hres)
                   rcases hk01 with rfl | rfl
                   all_goals
                     go_wp2_with (first | (go_at_call 15; with_reducible refine (HF.out _).mono ?_; rintro e W2 ⟨rfl, K2⟩; obtain ⟨p0, p1, p2, p3, p4, p5⟩ := HQ.out W2 (K1.trans K2)))
                     go_ret2
                     exact ⟨rfl, (HKW.out.trans K1).trans K2⟩
                 | false =>
                   rw [if_neg (by rintro (⟨_, h'⟩ | ⟨h', _⟩); exact absurd h' (by decide); exact h' hk01), decide_eq_true hk01] at HR
                   obtain ⟨st2, hst2⟩ : ∃ st2 : List Opn, st2 = [] := ⟨_, rfl⟩
                   rw [<- hst2] at HR HH2
                   have HL2 : Hid (st2.length = 0) := Lib.hid (by rw [hst2]; rfl)
                   have HS2 : Hid (∀ W, Kin WB W -> OwnSt W w.heap.size (.slice bs 0 caps) st2) := Lib.hid (fun W K => by rw [hst2]; exact HS.out W K)
                   clear hst2
                   have hnp : ¬ (0 < rwants kd \/ kd = 9) := by rcases hk01 with rfl | rfl <;> decide
                   have e9 : (kd == 9) = false := by rcases hk01 with rfl | rfl <;> rfl
                   have e01 : ((kd == 0) = true) \/ ((kd == 0) = false /\ (kd == 1) = true) := by rcases hk01 with rfl | rfl; exact .inl rfl; exact .inr ⟨rfl, rfl⟩
                   clear hk01
                   rcases e01 with e0 | ⟨e0, e1⟩
                   all_goals
                     by_cases h24 : (24 : Int) < 1
                     · exact absurd h24 (by decide)
                     · have hG2 : rshapeG (rpush st2 ⟨1, kd, nm, nu, op, at_⟩) (false) (k + 1) (l.drop (k + 1)) = (rc, rp) := by
                         have hres := HG.out
                         rw [rshape_step HN.out, HR.out] at hres
                         rw [<- hres]
                         exact (if_neg h24).symm
                       have HG2 := Lib.hid hG2
                       clear hG2
                       have HX := Lib.hid (fun W => rwants_any kd W)
                       have HP : Hid (rpush st2 ⟨1, kd, nm, nu, op, at_⟩ = if 0 < rwants kd \/ kd = 9 then st2 ++ [⟨1, kd, 0⟩] else st2) := Lib.hid rfl
                       generalize rwants kd = x at HX HP hnp
                       go_wp2_with (first | (go_at_call 15; with_reducible refine (HF.out _).mono ?_; rintro e W2 ⟨rfl, K2⟩; obtain ⟨p0, p1, p2, p3, p4, p5⟩ := HQ.out W2 (K1.trans K2)) | (go_at_call 14; with_reducible refine (HX.out _).mono ?_; rintro e w9 ⟨rfl, he9⟩; obtain rfl := he9.symm))
                       go_roundg (l.length - (k + 1))
                       case measure => have := HGG.out; omega
                       case rel =>
                         refine ⟨k + 1, st2, false, rfl, by simp, by omega, rfl, HS2.out W2 (K1.trans K2), ((HKW.out.trans K1).trans K2), by have := HL2.out; first | omega | (have := HD1.out; omega), fun oo hoo => by have := HH2.out oo hoo; omega, ?_⟩
                         have := HG2.out
                         rw [HP.out, if_neg (by omega)] at this
                         exact this
               · have e0 : (kd == 0) = false := by simp; omega
                 have e1 : (kd == 1) = false := by simp; omega
                 cases hsb : isStmtB kd with
                 | false =>
                   rw [hsb] at HST
                   have hres := HG.out
                   rw [rshape_step HN.out, HR.out, if_pos (.inr ⟨hk01, hsb⟩)] at hres
                   obtain ⟨rfl, rfl⟩ := Prod.mk.inj (show ((33 : Int), (k : Int)) = (rc, rp) from hres)
                   cases begun
                   all_goals
                     go_wp2_with (first | (go_at_call 15; with_reducible refine (HF.out _).mono ?_; rintro e W2 ⟨rfl, K2⟩; obtain ⟨p0, p1, p2, p3, p4, p5⟩ := HQ.out W2 (K1.trans K2)) | (go_at_call 16; with_reducible refine (HST.out _).mono ?_; rintro e w9 ⟨rfl, he9⟩; obtain rfl := he9.symm))
                     go_ret2
                     exact ⟨rfl, (HKW.out.trans K1).trans K2⟩
                 | true =>
                   rw [hsb] at HST
                   rw [if_neg (by rintro (⟨h', _⟩ | ⟨_, h'⟩); exact hk01 h'; rw [hsb] at h'; cases h'), decide_eq_false hk01] at HR
                   obtain ⟨st2, hst2⟩ : ∃ st2 : List Opn, st2 = [] := ⟨_, rfl⟩
                   rw [<- hst2] at HR HH2
                   have HL2 : Hid (st2.length = 0) := Lib.hid (by rw [hst2]; rfl)
                   have HS2 : Hid (∀ W, Kin WB W -> OwnSt W w.heap.size (.slice bs 0 caps) st2) := Lib.hid (fun W K => by rw [hst2]; exact HS.out W K)
                   clear hst2 hk01 hsb
                   have eb : (begun || !false) = true := by simp
                   rw [eb] at HR
                   clear eb
                   cases begun
                   all_goals
                     by_cases h24 : (24 : Int) < 1
                     · exact absurd h24 (by decide)
                     · have hG2 : rshapeG (rpush st2 ⟨1, kd, nm, nu, op, at_⟩) (true) (k + 1) (l.drop (k + 1)) = (rc, rp) := by
                         have hres := HG.out
                         rw [rshape_step HN.out, HR.out] at hres
                         rw [<- hres]
                         exact (if_neg h24).symm
                       have HG2 := Lib.hid hG2
                       clear hG2
                       have HX := Lib.hid (fun W => rwants_any kd W)
                       have HP : Hid (rpush st2 ⟨1, kd, nm, nu, op, at_⟩ = if 0 < rwants kd \/ kd = 9 then st2 ++ [⟨1, kd, 0⟩] else st2) := Lib.hid rfl
                       generalize rwants kd = x at HX HP
                       obtain ⟨ti, hi, hz0, hz1, hz2⟩ := info_parts info105
                       by_cases hx : 0 < x
                       · go_upto_region 29 with (first | (go_at_call 15; with_reducible refine (HF.out _).mono ?_; rintro e W2 ⟨rfl, K2⟩; obtain ⟨p0, p1, p2, p3, p4, p5⟩ := HQ.out W2 (K1.trans K2)) | (go_at_call 16; with_reducible refine (HST.out _).mono ?_; rintro e w9 ⟨rfl, he9⟩; obtain rfl := he9.symm) | (go_at_call 14; with_reducible refine (HX.out _).mono ?_; rintro e w9 ⟨rfl, he9⟩; obtain rfl := he9.symm))
                         have hkin0 := ((HKW.out.trans K1).trans K2)
                         have hown0 := HS2.out W2 (K1.trans K2)
                         generalize hV : (.slice bs 0 caps : Value) = sv at hown0 ⊢
                         clear hV
                         go_wp2_with (at_builtin; refine wpList_append_own _ rfl (.tmp 131) (.tmp 136) 45 rfl w.heap.size 47 ti _ 3 24 Tryd.underlying45 hi hz0 hz1 hz2 rfl (by decide) sv st2.length (opCells st2) rfl (World.ownsRow.alloc (show World.ownsRow _ w.heap.size 47 3 sv st2.length (opCells st2) from hown0) _) ⟨_, 0, none⟩ 1 1 (opC ⟨1, kd, 0⟩) rfl rfl (newOp _ ⟨1, kd, 0⟩) (cellOp _) (by have := HL2.out; unfold maxLen; omega) (by have := HL2.out; omega) (Nat.le_trans hkin0.size (by simp)) ?_; intro v1 w1 hown1 hgrow1 _)
                         go_roundg (l.length - (k + 1))
                         case measure => have := HGG.out; omega
                         case rel =>
                           refine ⟨k + 1, st2 ++ [⟨1, kd, 0⟩], true, rfl, by simp, by omega, rfl, OwnSt.pushed ⟨1, kd, 0⟩ hown1, (hkin0.alloc _).grown hgrow1 (fun kk hkk => ((show World.ownsRow _ w.heap.size 47 3 sv st2.length (opCells st2) from hown0).lt kk hkk).1), ?_, ?_, ?_⟩
                           · have := HL2.out
                             simp
                             first | omega | (have := HD1.out; omega)
                           · intro oo hoo
                             rcases List.mem_append.1 hoo with h' | h'
                             · have := HH2.out oo h'
                               omega
                             · have : oo = ⟨1, kd, 0⟩ := by simpa using h'
                               subst this
                               exact ⟨Int.le_refl _, by show (0 : Int) <= _; omega⟩
                           · have := HG2.out
                             rw [HP.out, if_pos (by first | exact .inl hx | exact .inr trivial | exact .inr rfl)] at this
                             exact this
                       · by_cases h9 : kd = 9
                         · subst h9
                           go_upto_region 29 with (first | (go_at_call 15; with_reducible refine (HF.out _).mono ?_; rintro e W2 ⟨rfl, K2⟩; obtain ⟨p0, p1, p2, p3, p4, p5⟩ := HQ.out W2 (K1.trans K2)) | (go_at_call 16; with_reducible refine (HST.out _).mono ?_; rintro e w9 ⟨rfl, he9⟩; obtain rfl := he9.symm) | (go_at_call 14; with_reducible refine (HX.out _).mono ?_; rintro e w9 ⟨rfl, he9⟩; obtain rfl := he9.symm))
                           have hkin0 := ((HKW.out.trans K1).trans K2)
                           have hown0 := HS2.out W2 (K1.trans K2)
                           generalize hV : (.slice bs 0 caps : Value) = sv at hown0 ⊢
                           clear hV
                           go_wp2_with (at_builtin; refine wpList_append_own _ rfl (.tmp 131) (.tmp 136) 45 rfl w.heap.size 47 ti _ 3 24 Tryd.underlying45 hi hz0 hz1 hz2 rfl (by decide) sv st2.length (opCells st2) rfl (World.ownsRow.alloc (show World.ownsRow _ w.heap.size 47 3 sv st2.length (opCells st2) from hown0) _) ⟨_, 0, none⟩ 1 1 (opC ⟨1, 9, 0⟩) rfl rfl (newOp _ ⟨1, 9, 0⟩) (cellOp _) (by have := HL2.out; unfold maxLen; omega) (by have := HL2.out; omega) (Nat.le_trans hkin0.size (by simp)) ?_; intro v1 w1 hown1 hgrow1 _)
                           go_roundg (l.length - (k + 1))
                           case measure => have := HGG.out; omega
                           case rel =>
                             refine ⟨k + 1, st2 ++ [⟨1, 9, 0⟩], true, rfl, by simp, by omega, rfl, OwnSt.pushed ⟨1, 9, 0⟩ hown1, (hkin0.alloc _).grown hgrow1 (fun kk hkk => ((show World.ownsRow _ w.heap.size 47 3 sv st2.length (opCells st2) from hown0).lt kk hkk).1), ?_, ?_, ?_⟩
                             · have := HL2.out
                               simp
                               first | omega | (have := HD1.out; omega)
                             · intro oo hoo
                               rcases List.mem_append.1 hoo with h' | h'
                               · have := HH2.out oo h'
                                 omega
                               · have : oo = ⟨1, 9, 0⟩ := by simpa using h'
                                 subst this
                                 exact ⟨Int.le_refl _, by show (0 : Int) <= _; omega⟩
                             · have := HG2.out
                               rw [HP.out, if_pos (by first | exact .inl hx | exact .inr trivial | exact .inr rfl)] at this
                               exact this
                         · have e9 : (kd == 9) = false := by simpa using h9
                           go_wp2_with (first | (go_at_call 15; with_reducible refine (HF.out _).mono ?_; rintro e W2 ⟨rfl, K2⟩; obtain ⟨p0, p1, p2, p3, p4, p5⟩ := HQ.out W2 (K1.trans K2)) | (go_at_call 16; with_reducible refine (HST.out _).mono ?_; rintro e w9 ⟨rfl, he9⟩; obtain rfl := he9.symm) | (go_at_call 14; with_reducible refine (HX.out _).mono ?_; rintro e w9 ⟨rfl, he9⟩; obtain rfl := he9.symm))
                           go_roundg (l.length - (k + 1))
                           case measure => have := HGG.out; omega
                           case rel =>
                             refine ⟨k + 1, st2, true, rfl, by simp, by omega, rfl, HS2.out W2 (K1.trans K2), ((HKW.out.trans K1).trans K2), by have := HL2.out; first | omega | (have := HD1.out; omega), fun oo hoo => by have := HH2.out oo hoo; omega, ?_⟩
                             have := HG2.out
                             rw [HP.out, if_neg (by omega)] at this
                             exact this
           · have hres := HG.out
             rw [rshape_step HN.out, HR.out, if_pos (.inl hd1)] at hres
             obtain ⟨rfl, rfl⟩ := Prod.mk.inj (show ((33 : Int), (k : Int)) = (rc, rp) from hres)
             go_wp2_with fail
             go_ret2
             exact ⟨rfl, HKW.out.trans K1⟩
         · skip
           obtain ⟨m, rfl⟩ : ∃ m', m = m' + 1 := ⟨m - 1, by omega⟩
           have hst1 : (st.take (m + 1)).length = m + 1 := by have := HM.out; simp; omega
           obtain ⟨gs, cs, hv2, hgs, hgl, hcs⟩ := (HS.out WB (Kin.refl _)).form hst1
           cases hv2
           have hgnb : gs < nb := by
             obtain ⟨g9, c9, hv9, _, h9, _⟩ := (show OwnSt wr0 w.heap.size (.slice (some ⟨gs, 0, none⟩) st.length caps) st from HO.out).form (m := st.length - 1) (by have := HM.out; omega)
             simp only [Value.slice.injEq, Option.some.injEq, Addr.mk.injEq, and_true] at hv9
             obtain ⟨rfl, _, _⟩ := hv9
             have := HNB.out
             omega
           obtain ⟨⟨od, ok, oh⟩, ho⟩ : ∃ o, st[m]? = some o := ⟨_, List.getElem?_eq_getElem (by have := HM.out; omega)⟩
           have ho2 : (st.take (m + 1))[m]? = some ⟨od, ok, oh⟩ := by rw [List.getElem?_take, if_pos (by omega)]; exact ho
           have hoh := HH.out _ (List.mem_of_getElem? ho)
           simp only at hoh
           have HT : Hid (∀ W, Kin WB W -> W.cell? ⟨gs, m * 3, none⟩ = some (.int .i64 od) /\ W.cell? ⟨gs, m * 3 + 1, none⟩ = some (.int .i64 ok) /\ W.cell? ⟨gs, m * 3 + 2, none⟩ = some (.int .i64 oh)) := Lib.hid (fun W K => (HS.out W K).cell ho2)
           have HFZ : Hid (∀ W, Kin WB W -> W.frozen? ⟨gs, m * 3 + 2, none⟩ = false) := Lib.hid (fun W K => (HS.out W K).froz hst1 _)
           have HHO := Lib.hid ho
           have HHO2 := Lib.hid ho2
           have HST1 := Lib.hid hst1
           have HGS := Lib.hid hgs
           clear ho ho2 hst1 hgs hgl
           obtain ⟨q0, q1, q2, q3, q4, q5⟩ := HQ.out wr HKQ.out
           obtain ⟨t0, t1, t2⟩ := HT.out wr HKQ.out
           by_cases hd : d <= od
           · go_wp2_with fail
             go_quiet (fail)
             rename_i nq
             have K1 : Kin WB (wr.drewN nq) := HKQ.out.drewN nq
             generalize wr.drewN nq = W1 at K1 ⊢
             obtain ⟨p0, p1, p2, p3, p4, p5⟩ := HQ.out W1 K1
             obtain ⟨x0, x1, x2⟩ := HT.out W1 K1
             clear q0 q1 q2 q3 q4 q5 t0 t1 t2
             have HXO := Lib.hid (fun W => rwants_any ok W)
             have HLK : Hid (lacks ⟨od, ok, oh⟩ = decide (oh < rwants ok)) := Lib.hid rfl
             generalize rwants ok = x at HXO HLK
             by_cases hlk : oh < x
             · have hres := HG.out
               rw [rshape_step HN.out, rstand_lacks HHO.out (by rw [HLK.out]; exact decide_eq_true hlk) (fun j y hj hy => by
                 rcases Nat.eq_or_lt_of_le hj with rfl | hj'
                 · rw [HHO.out] at hy; cases hy; exact hd
                 · exact (HBIG.out j y (by omega) hy).1)] at hres
               obtain ⟨rfl, rfl⟩ := Prod.mk.inj (show ((33 : Int), (k : Int)) = (rc, rp) from hres)
               go_wp2_with fail
               have K2 := Lib.hid (K1.alloc (.cells #[.int .i64 od, .int .i64 ok, .int .i64 oh] 47))
               go_quiet ((go_at_call 14; exact Calls.quiet_of_same (HXO.out _)))
               go_wp2_with fail
               go_ret2
               exact ⟨rfl, (HKW.out.trans K2.out).drewN _⟩
             · have hge : x <= oh := Int.not_lt.1 hlk
               have hdx : decide (oh < x) = false := decide_eq_false hlk
               have hpx : (oh < x) = False := eq_false hlk
               go_wp2_with fail
               have K2 := Lib.hid (K1.alloc (.cells #[.int .i64 od, .int .i64 ok, .int .i64 oh] 47))
               go_quiet ((go_at_call 14; exact Calls.quiet_of_same (HXO.out _)))
               go_wp2_with fail
               go_roundg m
               case measure => have := HGM.out; omega
               case rel =>
                 refine ⟨m, rfl, by omega, rfl, K2.out.drewN _, fun j y hj hy => ?_⟩
                 rcases Nat.eq_or_lt_of_le hj with rfl | hj'
                 · rw [HHO.out] at hy
                   cases hy
                   exact ⟨hd, by rw [HLK.out]; exact hdx⟩
                 · exact HBIG.out j y (by omega) hy
           · have hd' : od < d := by omega
             have HR := Lib.hid (rstand_in (begun := begun) (n := ⟨d, kd, nm, nu, op, at_⟩) HHO.out hd' HBIG.out)
             simp only at HR
             go_wp2_with fail
             go_quiet (fail)
             rename_i nq
             have K1 : Kin WB (wr.drewN nq) := HKQ.out.drewN nq
             generalize wr.drewN nq = W1 at K1 ⊢
             clear q0 q1 q2 q3 q4 q5 t0 t1 t2
             obtain ⟨q0, q1, q2, q3, q4, q5⟩ := HQ.out W1 K1
             obtain ⟨t0, t1, t2⟩ := HT.out W1 K1
             by_cases hd1 : d = m + 1 + 1
             · have HF : Hid (∀ W, Calls Tryd.prog 15 #[.agg #[.int .i64 d, .int .i64 kd, .string nm, .int .i64 nu, .int .i64 op, .int .i64 at_]] W fun e w' => e = .returned (.bool (fieldsB ⟨d, kd, nm, nu, op, at_⟩)) /\ Kin W w') := Lib.hid (fun W => rfields_any ⟨d, kd, nm, nu, op, at_⟩ (HLIM.out _ (List.mem_of_getElem? HN.out)) W)
               have hd0 : (d != (m : Int) + 1 + 1) = false := by simp [hd1]
               have hd00 : (d == (m : Int) + 1 + 1) = true := by simp [hd1]
               cases hfb : fieldsB ⟨d, kd, nm, nu, op, at_⟩ with
               | false =>
                 rw [hfb] at HF HR
                 have hres := HG.out
                 rw [rshape_step HN.out, HR.out, if_pos (.inr rfl)] at hres
                 obtain ⟨rfl, rfl⟩ := Prod.mk.inj (show ((33 : Int), (k : Int)) = (rc, rp) from hres)
                 clear hd1
                 go_wp2_with (first | (go_at_call 15; with_reducible refine (HF.out _).mono ?_; rintro e W2 ⟨rfl, K2⟩; obtain ⟨p0, p1, p2, p3, p4, p5⟩ := HQ.out W2 (K1.trans K2); obtain ⟨x0, x1, x2⟩ := HT.out W2 (K1.trans K2)))
                 go_ret2
                 exact ⟨rfl, (HKW.out.trans K1).trans K2⟩
               | true =>
                 rw [hfb] at HF HR
                 rw [if_neg (by simp [hd1])] at HR
                 have HRH := Lib.hid (fun W => rholds_any od ok oh kd W)
                 cases hrh : rholds ⟨od, ok, oh⟩ kd with
                 | false =>
                   rw [hrh] at HRH HR
                   have hres := HG.out
                   rw [rshape_step HN.out, HR.out, if_pos rfl] at hres
                   obtain ⟨rfl, rfl⟩ := Prod.mk.inj (show ((33 : Int), (k : Int)) = (rc, rp) from hres)
                   clear hd1
                   go_wp2_with (first | (go_at_call 15; with_reducible refine (HF.out _).mono ?_; rintro e W2 ⟨rfl, K2⟩; obtain ⟨p0, p1, p2, p3, p4, p5⟩ := HQ.out W2 (K1.trans K2); obtain ⟨x0, x1, x2⟩ := HT.out W2 (K1.trans K2)) | (go_at_call 17; with_reducible refine (HRH.out _).mono ?_; rintro e W3 ⟨rfl, K3⟩; obtain ⟨y0, y1, y2⟩ := HT.out W3 ((K1.trans K2).trans K3); obtain ⟨z0, z1, z2, z3, z4, z5⟩ := HQ.out W3 ((K1.trans K2).trans K3); have zf := HFZ.out W3 ((K1.trans K2).trans K3)))
                   go_ret2
                   exact ⟨rfl, ((HKW.out.trans K1).trans K2).trans K3⟩
                 | true =>
                   rw [hrh] at HRH HR
                   rw [if_neg (by simp)] at HR
                   obtain ⟨st2, hst2⟩ : ∃ st2 : List Opn, st2 = st.take m ++ [⟨od, ok, oh + 1⟩] := ⟨_, rfl⟩
                   have HL2 : Hid (st2.length = m + 1) := Lib.hid (by rw [hst2]; have := HM.out; simp; omega)
                   have HH2 : Hid (∀ oo ∈ st2, 0 <= oo.has /\ oo.has <= (k : Int) + 1) := Lib.hid (fun oo hoo => by
                     rw [hst2] at hoo
                     rcases List.mem_append.1 hoo with h' | h'
                     · have := HH.out oo (List.mem_of_mem_take h')
                       omega
                     · have : oo = ⟨od, ok, oh + 1⟩ := by simpa using h'
                       subst this
                       show 0 <= oh + 1 /\ oh + 1 <= (k : Int) + 1
                       omega)
                   have HS2 : Hid (∀ W, Kin WB W -> OwnSt (W.setCell ⟨gs, m * 3 + 2, none⟩ (.int .i64 (oh + 1))) w.heap.size (.slice (some ⟨gs, 0, none⟩) (m + 1) caps) st2) := Lib.hid (fun W K => by
                     rw [hst2]
                     have := (HS.out W K).setHas HST1.out HHO2.out (oh + 1)
                     rw [List.take_take, Nat.min_eq_left (by omega)] at this
                     exact this)
                   have HK2 : Hid (∀ W, Kin WB W -> Kin w (W.setCell ⟨gs, m * 3 + 2, none⟩ (.int .i64 (oh + 1)))) := Lib.hid (fun W K => (HKW.out.trans K).grown (grown_set W gs (m * 3 + 2) _) (fun kk hkk => by cases hkk; exact HGS.out))
                   rw [<- hst2] at HR
                   clear hst2
                   have hne1 : ¬ gs = nb := by omega
                   have hne2 : ¬ nb = gs := by omega
                   have HD1 := Lib.hid hd1
                   clear hd1
                   by_cases h24 : 24 < (d : Int)
                   · have hres := HG.out
                     rw [rshape_step HN.out, HR.out] at hres
                     obtain ⟨rfl, rfl⟩ := Prod.mk.inj (show ((31 : Int), (k : Int)) = (rc, rp) from by rw [<- hres]; exact (if_pos h24).symm)
                     go_wp2_with (first | (go_at_call 15; with_reducible refine (HF.out _).mono ?_; rintro e W2 ⟨rfl, K2⟩; obtain ⟨p0, p1, p2, p3, p4, p5⟩ := HQ.out W2 (K1.trans K2); obtain ⟨x0, x1, x2⟩ := HT.out W2 (K1.trans K2)) | (go_at_call 17; with_reducible refine (HRH.out _).mono ?_; rintro e W3 ⟨rfl, K3⟩; obtain ⟨y0, y1, y2⟩ := HT.out W3 ((K1.trans K2).trans K3); obtain ⟨z0, z1, z2, z3, z4, z5⟩ := HQ.out W3 ((K1.trans K2).trans K3); have zf := HFZ.out W3 ((K1.trans K2).trans K3)))
                     go_ret2
                     exact ⟨rfl, (HK2.out W3 ((K1.trans K2).trans K3))⟩
                   · have hG2 : rshapeG (rpush st2 ⟨d, kd, nm, nu, op, at_⟩) (begun) (k + 1) (l.drop (k + 1)) = (rc, rp) := by
                       have hres := HG.out
                       rw [rshape_step HN.out, HR.out] at hres
                       rw [<- hres]
                       exact (if_neg h24).symm
                     have HG2 := Lib.hid hG2
                     clear hG2
                     have HX := Lib.hid (fun W => rwants_any kd W)
                     have HP : Hid (rpush st2 ⟨d, kd, nm, nu, op, at_⟩ = if 0 < rwants kd \/ kd = 9 then st2 ++ [⟨d, kd, 0⟩] else st2) := Lib.hid rfl
                     generalize rwants kd = x at HX HP
                     obtain ⟨ti, hi, hz0, hz1, hz2⟩ := info_parts info105
                     by_cases hx : 0 < x
                     · go_upto_region 29 with (first | (go_at_call 15; with_reducible refine (HF.out _).mono ?_; rintro e W2 ⟨rfl, K2⟩; obtain ⟨p0, p1, p2, p3, p4, p5⟩ := HQ.out W2 (K1.trans K2); obtain ⟨x0, x1, x2⟩ := HT.out W2 (K1.trans K2)) | (go_at_call 17; with_reducible refine (HRH.out _).mono ?_; rintro e W3 ⟨rfl, K3⟩; obtain ⟨y0, y1, y2⟩ := HT.out W3 ((K1.trans K2).trans K3); obtain ⟨z0, z1, z2, z3, z4, z5⟩ := HQ.out W3 ((K1.trans K2).trans K3); have zf := HFZ.out W3 ((K1.trans K2).trans K3)) | (go_at_call 14; with_reducible refine (HX.out _).mono ?_; rintro e w9 ⟨rfl, he9⟩; obtain rfl := he9.symm))
                       have hkin0 := (HK2.out W3 ((K1.trans K2).trans K3))
                       have hown0 := HS2.out W3 ((K1.trans K2).trans K3)
                       generalize hV : (.slice (some ⟨gs, 0, none⟩) (m + 1) caps : Value) = sv at hown0 ⊢
                       clear hV
                       have c9 : World.cell? (W3.setCell ⟨gs, m * 3 + 2, none⟩ (.int .i64 (oh + 1))) ⟨nb, 0, none⟩ = some (.int .i64 d) := by simp [go_sem, hne1, hne2, z0]
                       generalize W3.setCell ⟨gs, m * 3 + 2, none⟩ (.int .i64 (oh + 1)) = W9 at hown0 hkin0 c9 ⊢
                       go_wp2_with (at_builtin; refine wpList_append_own _ rfl (.tmp 131) (.tmp 136) 45 rfl w.heap.size 47 ti _ 3 24 Tryd.underlying45 hi hz0 hz1 hz2 rfl (by decide) sv st2.length (opCells st2) rfl (World.ownsRow.alloc (show World.ownsRow _ w.heap.size 47 3 sv st2.length (opCells st2) from hown0) _) ⟨_, 0, none⟩ 1 1 (opC ⟨d, kd, 0⟩) rfl rfl (newOp _ ⟨d, kd, 0⟩) (cellOp _) (by have := HL2.out; unfold maxLen; omega) (by have := HL2.out; omega) (Nat.le_trans hkin0.size (by simp)) ?_; intro v1 w1 hown1 hgrow1 _)
                       go_roundg (l.length - (k + 1))
                       case measure => have := HGG.out; omega
                       case rel =>
                         refine ⟨k + 1, st2 ++ [⟨d, kd, 0⟩], begun, rfl, by simp, by omega, rfl, OwnSt.pushed ⟨d, kd, 0⟩ hown1, (hkin0.alloc _).grown hgrow1 (fun kk hkk => ((show World.ownsRow _ w.heap.size 47 3 sv st2.length (opCells st2) from hown0).lt kk hkk).1), ?_, ?_, ?_⟩
                         · have := HL2.out
                           simp
                           first | omega | (have := HD1.out; omega)
                         · intro oo hoo
                           rcases List.mem_append.1 hoo with h' | h'
                           · have := HH2.out oo h'
                             omega
                           · have : oo = ⟨d, kd, 0⟩ := by simpa using h'
                             subst this
                             exact ⟨Int.le_refl _, by show (0 : Int) <= _; omega⟩
                         · have := HG2.out
                           rw [HP.out, if_pos (by first | exact .inl hx | exact .inr trivial | exact .inr rfl)] at this
                           exact this
                     · by_cases h9 : kd = 9
                       · subst h9
                         go_upto_region 29 with (first | (go_at_call 15; with_reducible refine (HF.out _).mono ?_; rintro e W2 ⟨rfl, K2⟩; obtain ⟨p0, p1, p2, p3, p4, p5⟩ := HQ.out W2 (K1.trans K2); obtain ⟨x0, x1, x2⟩ := HT.out W2 (K1.trans K2)) | (go_at_call 17; with_reducible refine (HRH.out _).mono ?_; rintro e W3 ⟨rfl, K3⟩; obtain ⟨y0, y1, y2⟩ := HT.out W3 ((K1.trans K2).trans K3); obtain ⟨z0, z1, z2, z3, z4, z5⟩ := HQ.out W3 ((K1.trans K2).trans K3); have zf := HFZ.out W3 ((K1.trans K2).trans K3)) | (go_at_call 14; with_reducible refine (HX.out _).mono ?_; rintro e w9 ⟨rfl, he9⟩; obtain rfl := he9.symm))
                         have hkin0 := (HK2.out W3 ((K1.trans K2).trans K3))
                         have hown0 := HS2.out W3 ((K1.trans K2).trans K3)
                         generalize hV : (.slice (some ⟨gs, 0, none⟩) (m + 1) caps : Value) = sv at hown0 ⊢
                         clear hV
                         have c9 : World.cell? (W3.setCell ⟨gs, m * 3 + 2, none⟩ (.int .i64 (oh + 1))) ⟨nb, 0, none⟩ = some (.int .i64 d) := by simp [go_sem, hne1, hne2, z0]
                         generalize W3.setCell ⟨gs, m * 3 + 2, none⟩ (.int .i64 (oh + 1)) = W9 at hown0 hkin0 c9 ⊢
                         go_wp2_with (at_builtin; refine wpList_append_own _ rfl (.tmp 131) (.tmp 136) 45 rfl w.heap.size 47 ti _ 3 24 Tryd.underlying45 hi hz0 hz1 hz2 rfl (by decide) sv st2.length (opCells st2) rfl (World.ownsRow.alloc (show World.ownsRow _ w.heap.size 47 3 sv st2.length (opCells st2) from hown0) _) ⟨_, 0, none⟩ 1 1 (opC ⟨d, 9, 0⟩) rfl rfl (newOp _ ⟨d, 9, 0⟩) (cellOp _) (by have := HL2.out; unfold maxLen; omega) (by have := HL2.out; omega) (Nat.le_trans hkin0.size (by simp)) ?_; intro v1 w1 hown1 hgrow1 _)
                         go_roundg (l.length - (k + 1))
                         case measure => have := HGG.out; omega
                         case rel =>
                           refine ⟨k + 1, st2 ++ [⟨d, 9, 0⟩], begun, rfl, by simp, by omega, rfl, OwnSt.pushed ⟨d, 9, 0⟩ hown1, (hkin0.alloc _).grown hgrow1 (fun kk hkk => ((show World.ownsRow _ w.heap.size 47 3 sv st2.length (opCells st2) from hown0).lt kk hkk).1), ?_, ?_, ?_⟩
                           · have := HL2.out
                             simp
                             first | omega | (have := HD1.out; omega)
                           · intro oo hoo
                             rcases List.mem_append.1 hoo with h' | h'
                             · have := HH2.out oo h'
                               omega
                             · have : oo = ⟨d, 9, 0⟩ := by simpa using h'
                               subst this
                               exact ⟨Int.le_refl _, by show (0 : Int) <= _; omega⟩
                           · have := HG2.out
                             rw [HP.out, if_pos (by first | exact .inl hx | exact .inr trivial | exact .inr rfl)] at this
                             exact this
                       · have e9 : (kd == 9) = false := by simpa using h9
                         go_wp2_with (first | (go_at_call 15; with_reducible refine (HF.out _).mono ?_; rintro e W2 ⟨rfl, K2⟩; obtain ⟨p0, p1, p2, p3, p4, p5⟩ := HQ.out W2 (K1.trans K2); obtain ⟨x0, x1, x2⟩ := HT.out W2 (K1.trans K2)) | (go_at_call 17; with_reducible refine (HRH.out _).mono ?_; rintro e W3 ⟨rfl, K3⟩; obtain ⟨y0, y1, y2⟩ := HT.out W3 ((K1.trans K2).trans K3); obtain ⟨z0, z1, z2, z3, z4, z5⟩ := HQ.out W3 ((K1.trans K2).trans K3); have zf := HFZ.out W3 ((K1.trans K2).trans K3)) | (go_at_call 14; with_reducible refine (HX.out _).mono ?_; rintro e w9 ⟨rfl, he9⟩; obtain rfl := he9.symm))
                         go_roundg (l.length - (k + 1))
                         case measure => have := HGG.out; omega
                         case rel =>
                           refine ⟨k + 1, st2, begun, rfl, by simp, by omega, rfl, HS2.out W3 ((K1.trans K2).trans K3), (HK2.out W3 ((K1.trans K2).trans K3)), by have := HL2.out; first | omega | (have := HD1.out; omega), fun oo hoo => by have := HH2.out oo hoo; omega, ?_⟩
                           have := HG2.out
                           rw [HP.out, if_neg (by omega)] at this
                           exact this
             · have hd0 : (d != (m : Int) + 1 + 1) = true := by simp [hd1]
               have hres := HG.out
               rw [rshape_step HN.out, HR.out, if_pos (.inl (by simpa using hd1))] at hres
               obtain ⟨rfl, rfl⟩ := Prod.mk.inj (show ((33 : Int), (k : Int)) = (rc, rp) from hres)
               clear hd1
               go_wp2_with fail
               go_ret2
               exact ⟨rfl, HKW.out.trans K1⟩
     · obtain rfl : k = l.length := by omega
       have hres : (if st.any lacks = true then ((33 : Int), (l.length : Int)) else (0, 0)) = (rc, rp) := by
         have h' := HG.out
         rw [List.drop_length] at h'
         exact h'
       have HRES := Lib.hid hres
       clear hres
       generalize hM : st.length = M at hst HO ⊢
       have HM := Lib.hid hM
       clear hM
       go_wp2_with fail
       go_loopg [12] M (fun g x wq => ∃ j : Nat, x = .int .i64 j /\ j <= M /\ g = M - j /\ Kin wr0 wq /\ ∀ (i : Nat) (y : Opn), i < j -> st[i]? = some y -> lacks y = false)
       case atStart => exact ⟨0, rfl, Nat.zero_le _, rfl, Kin.refl _, fun i y hi hy => by omega⟩
       case round =>
         obtain ⟨j, rfl, hj, hg, hkq, hno⟩ := hrel
         have HGM := Lib.hid hg
         have HKQ := Lib.hid hkq
         have HNO := Lib.hid hno
         clear hg hkq hno
         by_cases hjl : j < M
         · obtain ⟨⟨od, ok, oh⟩, ho⟩ : ∃ o, st[j]? = some o := ⟨_, List.getElem?_eq_getElem (by have := HM.out; omega)⟩
           obtain ⟨m, rfl⟩ : ∃ m, M = m + 1 := ⟨M - 1, by omega⟩
           have hOq := HO.out.kin HKQ.out
           obtain ⟨gs, cs, hv2, _, _, _⟩ := hOq.form HM.out
           cases hv2
           obtain ⟨t0, t1, t2⟩ := hOq.cell ho
           simp only at t0 t1 t2
           have HXO := Lib.hid (fun W => rwants_any ok W)
           have HLK : Hid (lacks ⟨od, ok, oh⟩ = decide (oh < rwants ok)) := Lib.hid rfl
           generalize rwants ok = x at HXO HLK
           have HHO := Lib.hid ho
           clear ho hOq
           by_cases hlk : oh < x
           · have hany : st.any lacks = true := by
               rw [List.any_eq_true]
               exact ⟨_, List.mem_of_getElem? HHO.out, by rw [HLK.out]; exact decide_eq_true hlk⟩
             have h' := HRES.out
             rw [if_pos hany] at h'
             obtain ⟨rfl, rfl⟩ := Prod.mk.inj (show ((33 : Int), (l.length : Int)) = (rc, rp) from h')
             go_wp2_with fail
             go_quiet ((go_at_call 14; exact Calls.quiet_of_same (HXO.out _)))
             go_wp2_with fail
             go_ret2
             exact ⟨rfl, (HK.out.trans HKQ.out).drewN _⟩
           · have hge : x <= oh := Int.not_lt.1 hlk
             have hdx : decide (oh < x) = false := decide_eq_false hlk
             have hpx : (oh < x) = False := eq_false hlk
             go_wp2_with fail
             go_quiet ((go_at_call 14; exact Calls.quiet_of_same (HXO.out _)))
             go_wp2_with fail
             go_roundg (m + 1 - (j + 1))
             case measure => have := HGM.out; omega
             case rel =>
               refine ⟨j + 1, by simp, by omega, rfl, HKQ.out.drewN _, fun i y hi hy => ?_⟩
               by_cases e : i = j
               · subst e
                 rw [HHO.out] at hy
                 cases hy
                 rw [HLK.out]
                 exact hdx
               · exact HNO.out i y (by omega) hy
         · have hany : ¬ st.any lacks = true := by
             rw [List.any_eq_true]
             rintro ⟨y, hy, hl⟩
             obtain ⟨i, hi⟩ := List.mem_iff_getElem?.1 hy
             rw [HNO.out i y (by have := (List.getElem?_eq_some_iff.1 hi).1; have := HM.out; omega) hi] at hl
             cases hl
           have h' := HRES.out
           rw [if_neg hany] at h'
           obtain ⟨rfl, rfl⟩ := Prod.mk.inj (show ((0 : Int), (0 : Int)) = (rc, rp) from h')
           go_wp2_with fail
           go_ret2
           exact ⟨rfl, HK.out.trans HKQ.out⟩
end Go.Proofs.YtonmcakdofbjiaaDoor
namespace Go.Proofs.YtonmcakdofbjiaaDoor
open Go.RowKit
theorem rest_any (n : Int) (m : Nat) (hm : 0 < m) (hm2 : m <= 9223372036854775807) (w : World) :
   Calls Tryd.prog 9 #[.int .i64 n, .int .i64 m] w fun e w' => (∃ k : Nat, k < m /\ e = .returned (.int .i64 k)) /\ w' = w := by
 have h2 : (Int.tmod n m).natAbs < m := by rw [Int.natAbs_tmod]; exact Nat.mod_lt _ (by simpa using hm)
 have h1 : -(m : Int) < Int.tmod n m /\ Int.tmod n m < m := by omega
 clear h2
 have hz : ((m : Int) == 0) = false := by simp; omega
 generalize hr : Int.tmod n m = r at h1
 by_cases h0 : r < 0
 · go_enter Tryd.func9, Tryd.ntmps9
   go_wp2
   go_ret
   exact ⟨⟨(r + m).toNat, by omega, by show Ending.returned (Value.int IntKind.i64 (r + m)) = _; rw [Int.toNat_of_nonneg (by omega)]⟩, rfl⟩
 · go_enter Tryd.func9, Tryd.ntmps9
   go_wp2
   go_ret
   exact ⟨⟨r.toNat, by omega, by show Ending.returned (Value.int IntKind.i64 r) = _; rw [Int.toNat_of_nonneg (by omega)]⟩, rfl⟩
end Go.Proofs.YtonmcakdofbjiaaDoor
