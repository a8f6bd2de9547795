/-
  The parts: base Prs10 base Prs11 base Prs12 base Prs13 base Prs14 base Prs15
-/
import Derived.Test.YtonmcakdofbjiaaDoorV21
import Derived.Laws.AppendOwnNone
import Derived.Recover
import Derived.Outline
import Derived.Laws.NewBlocks
set_option linter.unusedVariables false
set_option linter.unusedSimpArgs false
set_option linter.unusedSectionVars false
set_option linter.unnecessarySimpa false
set_option maxRecDepth 100000
set_option maxHeartbeats 8000000
namespace Go.Proofs.YtonmcakdofbjiaaDoor
open Go.RowKit
def isKids (C : Ctx) (w0 : World) : List Tr -> Value -> World -> Prop := fun ts v w' => KidsOwn C w0 w' v ts
def StmtsC (C : Ctx) (f : Nat) : Prop := ∀ i w r, rd C f .stmts i = some r -> Rd C i w -> Calls Tryd.prog 37 #[.pointer (some ⟨C.r, 0, none⟩)] w (PPost C w r (isKids C w))
def prep (ks : List Tr) : Res (List Tr) -> Res (List Tr)
 | .ok us j => .ok (ks ++ us) j
 | .no p => .no p
theorem calls_stmt0 {C : Ctx} {F : FuncId} {a : Array Value} {w : World} {j : Nat} (h : Calls Tryd.prog F a w (PPost C w (.ok [] j) (isStmt C w))) : Calls Tryd.prog F a w fun e w' => e = .returned (.pointer none) /\ Rd C j w' /\ Grew C w w' := by
 refine h.mono fun e w' he => ?_
 cases e with
 | returned v =>
   obtain ⟨_, _, h, h1, h3, h4⟩ := he
   cases h
   rcases h1 with ⟨_, rfl⟩ | ⟨t, p, h1, _⟩
   · exact ⟨rfl, h3, h4⟩
   · cases h1
 | panicked ch => obtain ⟨q, h, hF⟩ := he; cases h
 | outgrown => exact he.elim
theorem calls_stmt1 {C : Ctx} {F : FuncId} {a : Array Value} {w : World} {j : Nat} {t : Tr} {l : List Tr} (h : Calls Tryd.prog F a w (PPost C w (.ok (t :: l) j) (isStmt C w))) : Calls Tryd.prog F a w fun e w' => ∃ p, l = [] /\ e = .returned (.pointer (some ⟨p, 0, none⟩)) /\ TrAt (Old C w) w' p t /\ Rd C j w' /\ Grew C w w' := by
 refine h.mono fun e w' he => ?_
 cases e with
 | returned v =>
   obtain ⟨_, _, h, h1, h3, h4⟩ := he
   cases h
   rcases h1 with ⟨h1, _⟩ | ⟨u, p, h1, rfl, hT⟩
   · cases h1
   · cases h1; exact ⟨p, rfl, rfl, hT, h3, h4⟩
 | panicked ch => obtain ⟨q, h, hF⟩ := he; cases h
 | outgrown => exact he.elim
theorem calls_kids {C : Ctx} {F : FuncId} {a : Array Value} {w : World} {ts : List Tr} {j : Nat} (h : Calls Tryd.prog F a w (PPost C w (.ok ts j) (isKids C w))) : Calls Tryd.prog F a w fun e w' => ∃ v, e = .returned v /\ KidsOwn C w w' v ts /\ Rd C j w' /\ Grew C w w' := by
 refine h.mono fun e w' he => ?_
 cases e with
 | returned v => obtain ⟨_, _, h, h1, h3, h4⟩ := he; cases h; exact ⟨v, rfl, h1, h3, h4⟩
 | panicked ch => obtain ⟨q, h, hF⟩ := he; cases h
 | outgrown => exact he.elim
/-! ### a reading goes on -/
def Up {α : Type} (i : Nat) (x : Option (Res α)) : Prop := ∀ a j, x = some (.ok a j) -> i <= j
theorem up_then {α β : Type} {i : Nat} {x : Option (Res α)} {F : α -> Nat -> Option (Res β)} (h : Up i x) (k : ∀ a j, i <= j -> Up i (F a j)) : Up i (andThen x F) := by
 intro b j hb
 cases x with
 | none => cases hb
 | some y => cases y with
   | no p => simp [andThen] at hb
   | ok a j' => exact k a j' (h a j' rfl) b j hb
theorem up_ok {α : Type} {i k : Nat} {a : α} (h : i <= k) : Up i (some (.ok a k)) := fun b j hb => by cases hb; exact h
theorem up_no {α : Type} {i : Nat} {p : Int} : Up (α := α) i (some (.no p)) := fun b j hb => by cases hb
theorem up_none {α : Type} {i : Nat} : Up (α := α) i none := fun b j hb => by cases hb
theorem up_want {C : Ctx} {s : ByteArray} {i k : Nat} (h : i <= k) : Up i (wantR C s k) := by
 unfold wantR; split
 · exact up_ok (by omega)
 · exact up_no
theorem up_name {C : Ctx} {i k : Nat} (h : i <= k) : Up i (nameR C k) := by
 unfold nameR; split
 · exact up_ok (by omega)
 · exact up_no
theorem up_number {C : Ctx} {i k : Nat} (h : i <= k) : Up i (numberR C k) := by
 unfold numberR; split
 · exact up_ok (by omega)
 · exact up_no
theorem up_rd (C : Ctx) : ∀ (f : Nat) (nt : NT) (i k : Nat), i <= k -> Up i (rd C f nt k) := by
 intro f
 induction f with
 | zero => intro nt i k h; exact up_none
 | succ f ih =>
   intro nt i k h
   cases nt <;> simp only [rd] <;>
     repeat' first
       | exact up_ok (by omega)
       | exact up_no
       | exact up_none
       | exact up_want (by omega)
       | exact up_name (by omega)
       | exact up_number (by omega)
       | exact ih _ _ _ (by omega)
       | (refine up_then ?_ fun a j hj => ?_)
       | split
theorem stmt_lt {C : Ctx} {f i j : Nat} {t : Tr} {l : List Tr} (h : rd C f .stmt i = some (.ok (t :: l) j)) : i < j := by
 cases f with
 | zero => cases h
 | succ f =>
   have key : rd C (f + 1) .stmt i = some (.ok [] i) \/ Up (i + 1) (rd C (f + 1) .stmt i) := by
     have ih := fun nt i k => up_rd C f nt i k
     simp only [rd]
     repeat' first
       | exact .inl rfl
       | (refine .inr (up_then ?_ fun a j hj => ?_))
       | exact up_ok (by omega)
       | exact up_no
       | exact up_none
       | exact up_want (by omega)
       | exact up_name (by omega)
       | exact up_number (by omega)
       | exact ih _ _ _ (by omega)
       | (refine up_then ?_ fun a j hj => ?_)
       | split
   rcases key with h2 | h2
   · rw [h] at h2; cases h2
   · exact h2 _ _ h
theorem stmts_step (C : Ctx) (n : Nat) (ih : ∀ f, f <= n -> StmtC C f) : StmtsC C (n + 1) := by
 intro i w r hr h
 have H0 := Lib.hid h
 have HI := Lib.hid ih
 have HR := Lib.hid hr
 have hlt := h.lt
 obtain ⟨ti, hi, hz0, hz1, hz2⟩ := info_parts info89
 clear ih hr h
 go_enter Tryd.func37, Tryd.ntmps37
 go_wp2
 go_loopg [3] (n + 1) (fun g x wr => ∃ ks j rr, KidsOwn C w wr x ks /\ Rd C j wr /\ Grew C w wr /\ g <= n + 1 /\ ks.length <= j /\ rd C g .stmts j = some rr /\ r = prep ks rr)
 case atStart => exact ⟨[], i, r, kidsOwn_nil C w w, H0.out, World.grownBy.refl _ _, Nat.le_refl _, Nat.zero_le _, HR.out, by cases r <;> rfl⟩
 case round =>
   obtain ⟨ks, j, rr, hK, hR, hG, hg, hlen, hr, hrr⟩ := hrel
   cases gk with
   | zero => cases hr
   | succ g =>
     simp only [rd] at hr
     cases hx : rd C g .stmt j with
     | none => rw [hx] at hr; cases hr
     | some y =>
       rw [hx] at hr
       have hS := HI.out g (by omega) j wr y hx hR
       have HK := Lib.hid hK
       have HRd := Lib.hid hR
       have HG := Lib.hid hG
       have HRR := Lib.hid hrr
       have hjl := hR.le
       have hll := hR.len
       have HX2 := Lib.hid hx
       clear hK hR hG hrr hx
       cases y with
       | no p =>
         simp only [andThen, Option.some.injEq] at hr
         have hp : r = .no p := by rw [HRR.out, <- hr]; rfl
         subst hp
         have hS := calls_no hS
         clear hr HRR
         go_wp2_with (go_at_call 47; with_reducible refine (hS).mono ?_; rintro e w' ⟨ch, rfl, hF⟩)
         exact ⟨rfl, _, rfl, hF.later HG.out⟩
       | ok ts j2 =>
         cases ts with
         | nil =>
           simp only [andThen, List.isEmpty_nil, if_true, Option.some.injEq] at hr
           have hp : r = .ok ks j2 := by rw [HRR.out, <- hr]; simp [prep]
           subst hp
           have hS := calls_stmt0 hS
           clear hr HRR
           go_wp2_with (go_at_call 47; with_reducible refine (hS).mono ?_; rintro e w' ⟨rfl, hR2, hG2⟩)
           go_ret
           exact ⟨ks, j2, rfl, HK.out.grew hlt hG2, hR2, grown_trans HG.out hG2⟩
         | cons t l =>
           have hS := calls_stmt1 hS
           have HE := Lib.hid hr
           clear hr
           have hjj : j < j2 := stmt_lt HX2.out
           go_wp2_with (first | (go_at_call 47; with_reducible refine (hS).mono ?_; rintro e w2 ⟨p, hl, rfl, hT2, hR2, hG2⟩) | (at_builtin; have K2 := HK.out.grew hlt hG2; obtain ⟨ps, hps, hown, htr⟩ := id K2; refine wpList_append_row _ rfl (.tmp 10) (.tmp 12) 59 rfl w.heap.size 61 ti _ 1 8 Tryd.underlying59 hi hz0 hz1 hz2 rfl (by decide) _ _ (ps.map ptrV) rfl (hown.alloc _) ⟨w2.heap.size, 0, none⟩ 1 1 [ptrV p] rfl rfl (new1 w2 p) (cell1 [p]) (by simp [maxLen]; omega) (by omega) (by have := HG.out.size; have := hG2.size; simp; omega) ?_; intro v3 w3 hown3 hgrow3 hv3))
           subst hl
           have hsz : w.heap.size <= wr.heap.size := HG.out.size
           have K3 : KidsOwn C w w3 v3 (ks ++ [t]) := KidsOwn.append (ts := [t]) (qs := [p]) hps htr rfl (one_new (w2 := w) hT2 hsz (fun k hk => (HK.out.row hlt hk).2.2)) hown3 hgrow3 hv3
           have hrow : ∀ k, u3.ownBlock = some k -> w.heap.size <= k := fun k hk => (K2.row hlt hk).1
           have hR3 := H0.out.row (hR2.alloc (Obj.cells #[Value.pointer (some ⟨p, 0, none⟩)] 61)) hgrow3 hrow
           have hG3 := grew_row (grown_trans (grown_trans HG.out hG2) (World.grownBy_alloc w2 (Obj.cells #[Value.pointer (some ⟨p, 0, none⟩)] 61) (some C.r))) hgrow3 hrow
           have hr := HE.out
           simp only [andThen, List.isEmpty_cons] at hr
           have K3 := Lib.hid K3
           have hR3 := Lib.hid hR3
           have hG3 := Lib.hid hG3
           clear hown hown3 hgrow3 hv3 htr hps K2 hT2 hR2 hG2 hrow
           cases hy : rd C g .stmts j2 with
           | none => rw [hy] at hr; simp [andThen] at hr
           | some y2 =>
             rw [hy] at hr
             have HY := Lib.hid hy
             have HRY : Hid (rr = prep [t] y2) := by
               show rr = prep [t] y2
               cases y2 <;> simp [andThen, prep] at hr ⊢ <;> exact hr.symm
             clear hr hy
             go_wp2
             go_roundg g
             case measure => omega
             case rel =>
               refine ⟨ks ++ [t], j2, y2, K3.out, hR3.out, hG3.out, by omega, by simp; omega, HY.out, ?_⟩
               rw [HRR.out, HRY.out]
               cases y2 <;> simp [prep]
theorem block_step (C : Ctx) (n : Nat) (hS : StmtsC C n) : BlockC C (n + 1) := by
 intro i w r hr h
 have hat := at_rd C i w h
 simp only [rd] at hr
 have HR := Lib.hid hr
 have HSS := Lib.hid hS
 have hlt := h.lt
 have H0 := Lib.hid h
 clear hr hS h
 go_enter Tryd.func61, Tryd.ntmps61
 go_upto_region 2 with (go_at_call 31; refine (hat).mono ?_; rintro e w1 ⟨rfl, hR1, hG1⟩)
 have S0 : StI C w i w1.heap.size (w1.heap.size + 1) 9 ⟨#[]⟩ 0 (placeOf C.l C.e i) i (w1.alloc (Obj.cells #[Value.int IntKind.i64 0, Value.int IntKind.i64 9, Value.string { data := #[] }, Value.int IntKind.i64 0, Value.int IntKind.i64 0, Value.int IntKind.i64 (placeOf C.l C.e i)] 26)) :=
   ⟨H0.out, hR1.alloc _, grown_trans hG1 (World.grownBy_alloc _ _ _), six_new _ _ _ _ _ _ _ _, hG1.size, by simp, by simp⟩
 have hwb : w.heap.size <= (w1.alloc (Obj.cells #[Value.int IntKind.i64 0, Value.int IntKind.i64 9, Value.string { data := #[] }, Value.int IntKind.i64 0, Value.int IntKind.i64 0, Value.int IntKind.i64 (placeOf C.l C.e i)] 26)).heap.size := by have := hG1.size; simp; omega
 generalize (w1.alloc (Obj.cells #[Value.int IntKind.i64 0, Value.int IntKind.i64 9, Value.string { data := #[] }, Value.int IntKind.i64 0, Value.int IntKind.i64 0, Value.int IntKind.i64 (placeOf C.l C.e i)] 26)) = wB at S0 hwb ⊢
 generalize w1.heap.size = N at S0 ⊢
 clear hR1 hG1 hat
 have hr := HR.out
 by_cases c1 : comesB C.l i ⟨#[123]⟩ = true
 · simp only [wantR, if_pos c1, andThen] at hr
   cases hx : rd C n .stmts (i + 1) with
   | none => rw [hx] at hr; cases hr
   | some y =>
     rw [hx] at hr
     have hS := fun W a => HSS.out (i + 1) W y hx a
     clear hx
     cases y with
     | no p =>
       obtain rfl : Res.no p = r := by simpa only [andThen, Option.some.injEq] using hr
       have hS := fun W a => calls_no (hS W a)
       clear hr HR HSS
       go_wp2_with (first | (go_at_call 35; with_reducible refine (want_at C i ⟨#[123]⟩ _ _ (by simp) S0.rd c1).mono ?_; rintro e w2 ⟨rfl, hR2, hG2⟩; have S2 := S0.call hR2 hG2) | (go_at_call 37; with_reducible refine (hS _ S2.rd).mono ?_; rintro e w3 ⟨ch, rfl, hF⟩))
       exact ⟨rfl, _, rfl, hF.later S2.grew⟩
     | ok ts j =>
       have hS := fun W a => calls_kids (hS W a)
       simp only [andThen] at hr
       by_cases c2 : comesB C.l j ⟨#[125]⟩ = true
       · simp only [wantR, if_pos c2, andThen] at hr
         have HE := Lib.hid (Option.some.inj hr)
         clear hr HR HSS
         go_wp2_with (first | (go_at_call 35; with_reducible refine (want_at C i ⟨#[123]⟩ _ _ (by simp) S0.rd c1).mono ?_; rintro e w2 ⟨rfl, hR2, hG2⟩; have S2 := S0.call hR2 hG2) | (go_at_call 37; with_reducible refine (hS _ S2.rd).mono ?_; rintro e w3 ⟨v3, rfl, K3, hR3, hG3⟩; have S3 := S2.call hR3 hG3) | (go_at_call 35; with_reducible refine (want_at C j ⟨#[125]⟩ _ _ (by simp) S3.rd c2).mono ?_; rintro e w4 ⟨rfl, hR4, hG4⟩; have S4 := S3.call hR4 hG4; have K4 := K3.grew S2.rd.lt hG4; have a0 := S4.six.c0; have a1 := S4.six.c1; have a2 := S4.six.c2; have a3 := S4.six.c3; have a4 := S4.six.c4; have a5 := S4.six.c5; obtain ⟨bb, cc, rfl, hKK⟩ := K4.kids S2.rd.lt) | (go_at_call 33; with_reducible refine (leaf_any ⟨0, 9, ⟨#[]⟩, 0, 0, placeOf C.l C.e i⟩ _ _ _ _).mono ?_; rintro e wl ⟨rfl, rfl⟩))
         go_ret
         exact post_node (wB := w2) ⟨0, 9, ⟨#[]⟩, 0, 0, placeOf C.l C.e i⟩ HE.out.symm hKK S2.grew.size S4.rd S4.grew
       · have c2n : comesB C.l j ⟨#[125]⟩ = false := by simpa using c2
         simp only [wantR, if_neg c2, andThen, Option.some.injEq] at hr
         subst hr
         clear c2 HR HSS
         go_wp2_with (first | (go_at_call 35; with_reducible refine (want_at C i ⟨#[123]⟩ _ _ (by simp) S0.rd c1).mono ?_; rintro e w2 ⟨rfl, hR2, hG2⟩; have S2 := S0.call hR2 hG2) | (go_at_call 37; with_reducible refine (hS _ S2.rd).mono ?_; rintro e w3 ⟨v3, rfl, K3, hR3, hG3⟩; have S3 := S2.call hR3 hG3) | (go_at_call 35; with_reducible refine (wantnot_at C j ⟨#[125]⟩ _ _ (by simp) S3.rd c2n).mono ?_; rintro e w4 ⟨ch, rfl, hF⟩))
         exact ⟨rfl, _, rfl, hF.later S3.grew⟩
 · have c1n : comesB C.l i ⟨#[123]⟩ = false := by simpa using c1
   simp only [wantR, if_neg c1, andThen, Option.some.injEq] at hr
   subst hr
   clear c1 HR HSS
   go_wp2_with (go_at_call 35; with_reducible refine (wantnot_at C i ⟨#[123]⟩ _ _ (by simp) S0.rd c1n).mono ?_; rintro e w2 ⟨ch, rfl, hF⟩)
   exact ⟨rfl, _, rfl, hF.later S0.grew⟩
theorem stmts_all (C : Ctx) : ∀ f, BlockC C f /\ StmtC C f /\ StmtsC C f := by
 intro f
 induction f using Nat.strongRecOn with
 | _ f ih =>
   cases f with
   | zero => refine ⟨?_, ?_, ?_⟩ <;> (intro i w r hr _; cases hr)
   | succ n => exact ⟨block_step C n (ih n (by omega)).2.2, stmt_step C n (ih n (by omega)).1, stmts_step C n fun f hf => (ih f (by omega)).2.1⟩
end Go.Proofs.YtonmcakdofbjiaaDoor
namespace Go.Proofs.YtonmcakdofbjiaaDoor
open Go.RowKit
theorem info50 : (Tryd.prog.info? 26).map (fun i => (i.zero, i.size, i.bytes)) = some (some (.agg #[.int .i64 0, .int .i64 0, .string ⟨#[]⟩, .int .i64 0, .int .i64 0, .int .i64 0]), 6, 56) := by kernel_rfl
theorem wpList_append_leaf {C : Ctx} {w w3 : World} {i j : Nat} {ks : List Tr} {ops : Array Oper} {rest : List Oper} {o : Oper} {a : Act} {Q : Exit -> Act -> World -> Prop} (n : Nd) (b : Option Addr) (cap : Nat) (hgd : o.guard = none) (s x : Operand)
   (ho : o.op = .call { callee := .builtin .append, args := #[s, x], argTypes := #[59, 59] }) (h0 : Rd C i w) (hR : Rd C j w3) (hG : Grew C w w3) {v : Value} (hK : KidsOwn C w w3 v ks) (hlen : ks.length <= 8193) (hs : a.eval s = v) (hx : a.eval x = .slice (some ⟨w3.heap.size + 1 + 1, 0, none⟩) 1 1)
   (h : ∀ v' w', KidsOwn C w w' v' (ks ++ [.mk n []]) -> Rd C j w' -> Grew C w w' -> wpList Tryd.prog ops Q rest (a.put o.dst v') w') :
   wpList Tryd.prog ops Q (o :: rest) a (((w3.alloc (.cells #[.int .i64 n.depth, .int .i64 n.kind, .string n.name, .int .i64 n.num, .int .i64 n.op, .int .i64 n.at_] 26)).alloc (.cells #[.int .i64 n.depth, .int .i64 n.kind, .string n.name, .int .i64 n.num, .int .i64 n.op, .int .i64 n.at_, .slice b 0 cap] 84)).alloc (.cells #[.pointer (some ⟨w3.heap.size + 1, 0, none⟩)] 61)) := by
 obtain ⟨ti, hi, hz0, hz1, hz2⟩ := info_parts info89
 have hT := tr_leaf (C := C) (w0 := w3) n (kids0 _ w3 b cap) hR.lt (Nat.le_refl _)
 have hg2 : Grew C w3 ((w3.alloc (.cells #[.int .i64 n.depth, .int .i64 n.kind, .string n.name, .int .i64 n.num, .int .i64 n.op, .int .i64 n.at_] 26)).alloc (.cells #[.int .i64 n.depth, .int .i64 n.kind, .string n.name, .int .i64 n.num, .int .i64 n.op, .int .i64 n.at_, .slice b 0 cap] 84)) := grew_alloc2 _ _ _
 have hsz : ((w3.alloc (.cells #[.int .i64 n.depth, .int .i64 n.kind, .string n.name, .int .i64 n.num, .int .i64 n.op, .int .i64 n.at_] 26)).alloc (.cells #[.int .i64 n.depth, .int .i64 n.kind, .string n.name, .int .i64 n.num, .int .i64 n.op, .int .i64 n.at_, .slice b 0 cap] 84)).heap.size = w3.heap.size + 1 + 1 := by simp
 have hR2 := (hR.alloc (.cells #[.int .i64 n.depth, .int .i64 n.kind, .string n.name, .int .i64 n.num, .int .i64 n.op, .int .i64 n.at_] 26)).alloc (.cells #[.int .i64 n.depth, .int .i64 n.kind, .string n.name, .int .i64 n.num, .int .i64 n.op, .int .i64 n.at_, .slice b 0 cap] 84)
 simp only [List.length_nil] at hT
 generalize ((w3.alloc (.cells #[.int .i64 n.depth, .int .i64 n.kind, .string n.name, .int .i64 n.num, .int .i64 n.op, .int .i64 n.at_] 26)).alloc (.cells #[.int .i64 n.depth, .int .i64 n.kind, .string n.name, .int .i64 n.num, .int .i64 n.op, .int .i64 n.at_, .slice b 0 cap] 84)) = W at hT hg2 hsz hR2 ⊢
 have K2 := hK.grew h0.lt hg2
 obtain ⟨ps, hps, hown, htr⟩ := id K2
 rw [<- hsz] at hx
 refine wpList_append_row _ hgd s x 59 ho w.heap.size 61 ti _ 1 8 Tryd.underlying59 hi hz0 hz1 hz2 rfl (by decide) v _ (ps.map ptrV) hs (hown.alloc _) ⟨W.heap.size, 0, none⟩ 1 1 [ptrV (w3.heap.size + 1)] hx rfl (new1 W _) (cell1 [w3.heap.size + 1]) (by simp [maxLen]; omega) (by omega) (by have := hG.size; have := hg2.size; simp; omega) ?_
 intro v3 w4 hown3 hgrow3 hv3
 have K3 : KidsOwn C w w4 v3 (ks ++ [.mk n []]) := KidsOwn.append (ts := [.mk n []]) (qs := [w3.heap.size + 1]) hps htr rfl (one_new (w2 := w) hT hG.size (fun k hk => (hK.row h0.lt hk).2.2)) hown3 hgrow3 hv3
 have hrow : ∀ k, v.ownBlock = some k -> w.heap.size <= k := fun k hk => (hK.row h0.lt hk).1
 exact h v3 w4 K3 (h0.row (hR2.alloc _) hgrow3 hrow) (grew_row (grown_trans (grown_trans hG hg2) (World.grownBy_alloc W _ (some C.r))) hgrow3 hrow)
theorem wpList_append_kids {C : Ctx} {w wk W : World} {i j : Nat} {ks ts : List Tr} {ops : Array Oper} {rest : List Oper} {o : Oper} {a : Act} {Q : Exit -> Act -> World -> Prop} (hgd : o.guard = none) (s x : Operand)
   (ho : o.op = .call { callee := .builtin .append, args := #[s, x], argTypes := #[59, 59] }) (h0 : Rd C i w) (hR : Rd C j W) (hG : Grew C w W) {v u : Value} (hK : KidsOwn C w W v ks) (hv : ∀ k, v.ownBlock = some k -> k < wk.heap.size) (hwk : w.heap.size <= wk.heap.size) (hU : KidsOwn C wk W u ts) (hlen : ks.length + ts.length <= 8193) (hs : a.eval s = v) (hx : a.eval x = u)
   (h : ∀ v' w', KidsOwn C w w' v' (ks ++ ts) -> Rd C j w' -> Grew C w w' -> wpList Tryd.prog ops Q rest (a.put o.dst v') w') : wpList Tryd.prog ops Q (o :: rest) a W := by
 obtain ⟨ti, hi, hz0, hz1, hz2⟩ := info_parts info89
 obtain ⟨ps, hps, hown, htr⟩ := id hK
 obtain ⟨qs, hqs, hown2, htr2⟩ := id hU
 rcases hown2.2 with ⟨rfl, hn⟩ | ⟨g, cap, cur, rfl, hb, hg, hn, hm, hsz, htake⟩
 · have hts : ts = [] := List.eq_nil_of_length_eq_zero hn
   subst hts
   refine wpList_append_own_none hgd s x 59 ho w.heap.size 61 ti 1 Tryd.underlying59 hi v _ _ hs hown hx ?_
   exact h v W (by rw [List.append_nil]; exact hK) hR hG
 · refine wpList_append_row _ hgd s x 59 ho w.heap.size 61 ti _ 1 8 Tryd.underlying59 hi hz0 hz1 hz2 rfl (by decide) v _ (ps.map ptrV) hs hown ⟨g, 0, none⟩ ts.length cap (qs.map ptrV) hx (by simp [hqs]) (hown2.cells rfl) (cell1 qs) (by simp [maxLen]; omega) (by omega) hG.size ?_
   intro v3 w4 hown3 hgrow3 hv3
   have hrow : ∀ k, v.ownBlock = some k -> w.heap.size <= k := fun k hk => (hK.row h0.lt hk).1
   have hts : ∀ (j : Nat) (t : Tr), ts[j]? = some t -> ∃ p, qs[j]? = some p /\ TrAt (fun k => Old C w k \/ v.ownBlock = some k) W p t := fun j t hj => by
     obtain ⟨p, hp, hT⟩ := htr2 j t hj
     exact ⟨p, hp, hT.mono fun k hk => .inl (hk.elim (old_sz hwk k) fun h => .inr (hv k h))⟩
   have hkeep : ∀ {p : Nat} {t : Tr}, TrAt (fun k => Old C w k \/ v.ownBlock = some k) W p t -> TrAt (fun k => Old C w k \/ v3.ownBlock = some k) w4 p t := by
     intro p t hT
     have hT3 := hT.bound.kept (w' := w4) fun k hk hx => hgrow3.block k hk (fun e => hx (.inl (.inr e.symm)))
     refine hT3.mono fun k hk => ?_
     rcases hk with hk | hk
     · exact .inl (.inl hk)
     · rcases hv3 k hk with h | h
       · exact .inl (.inr h)
       · exact .inr h
   have K3 : KidsOwn C w w4 v3 (ks ++ ts) := by
     refine ⟨ps ++ qs, by simp [hps, hqs], by rw [List.map_append, List.length_append]; exact hown3, fun j t hj => ?_⟩
     by_cases hlt : j < ks.length
     · rw [List.getElem?_append_left hlt] at hj
       obtain ⟨p, hp, hT⟩ := htr j t hj
       exact ⟨p, by rw [List.getElem?_append_left (by omega)]; exact hp, hkeep hT⟩
     · rw [List.getElem?_append_right (by omega)] at hj
       obtain ⟨p, hp, hT⟩ := hts _ t hj
       exact ⟨p, by rw [List.getElem?_append_right (by omega), hps]; exact hp, hkeep hT⟩
   exact h v3 w4 K3 (h0.row hR hgrow3 hrow) (grew_row hG hgrow3 hrow)
/-! ### how many -/
def OneT (x : Option (Res (List Tr))) : Prop := ∀ ts j, x = some (.ok ts j) -> ts.length <= 1
theorem one_then {α : Type} {x : Option (Res α)} {F : α -> Nat -> Option (Res (List Tr))} (k : ∀ a j, OneT (F a j)) : OneT (andThen x F) := by
 intro b j hb
 cases x with
 | none => cases hb
 | some y => cases y with
   | no p => simp [andThen] at hb
   | ok a j' => exact k a j' b j hb
theorem one_ok {k : Nat} {a : List Tr} (h : a.length <= 1) : OneT (some (.ok a k)) := fun b j hb => by cases hb; exact h
theorem stmt_one {C : Ctx} {f i : Nat} : OneT (rd C f .stmt i) := by
 cases f with
 | zero => intro ts j h; cases h
 | succ f =>
   simp only [rd]
   repeat' first
     | exact one_ok (by simp)
     | (refine one_then fun a j => ?_)
     | split
theorem stmts_count {C : Ctx} : ∀ {f i j : Nat} {ts : List Tr}, rd C f .stmts i = some (.ok ts j) -> i + ts.length <= j := by
 intro f
 induction f with
 | zero => intro i j ts h; cases h
 | succ f ih =>
   intro i j ts h
   simp only [rd] at h
   cases hx : rd C f .stmt i with
   | none => rw [hx] at h; cases h
   | some y =>
     rw [hx] at h
     cases y with
     | no p => simp [andThen] at h
     | ok us k =>
       have h1 := stmt_one us k hx
       cases us with
       | nil => simp [andThen] at h; have := up_rd C f .stmt i i (Nat.le_refl _) _ _ hx; obtain ⟨rfl, rfl⟩ := h; simpa using this
       | cons u l =>
         have h2 := stmt_lt hx
         simp only [andThen, List.isEmpty_cons] at h
         cases hy : rd C f .stmts k with
         | none => rw [hy] at h; simp [andThen] at h
         | some z =>
           rw [hy] at h
           cases z with
           | no p => simp [andThen] at h
           | ok vs m =>
             simp [andThen] at h
             obtain ⟨h5, rfl⟩ := h
             rw [<- h5]
             have := ih hy
             simp only [List.length_cons, List.length_append] at h1 ⊢
             omega
theorem prog_any (C : Ctx) (n : Nat) (i : Nat) (w : World) (r : Res (List Tr)) (hr : rd C n .prog i = some r) (h : Rd C i w) : Calls Tryd.prog 21 #[.pointer (some ⟨C.r, 0, none⟩)] w (PPost C w r (isKids C w)) := by
 have H0 := Lib.hid h
 have HR := Lib.hid hr
 have hlt := h.lt
 obtain ⟨ti, hi, hz0, hz1, hz2⟩ := info_parts info89
 clear hr h
 go_enter Tryd.func21, Tryd.ntmps21
 go_wp2
 go_loopg [3] n (fun g x wr => ∃ ks j rr, KidsOwn C w wr x ks /\ Rd C j wr /\ Grew C w wr /\ g <= n /\ ks.length <= j /\ rd C g .prog j = some rr /\ r = prep ks rr)
 case atStart => exact ⟨[], i, r, kidsOwn_nil C w w, H0.out, World.grownBy.refl _ _, Nat.le_refl _, Nat.zero_le _, HR.out, by cases r <;> rfl⟩
 case round =>
   obtain ⟨ks, j, rr, hK, hR, hG, hg, hlen, hr, hrr⟩ := hrel
   cases gk with
   | zero => cases hr
   | succ g =>
     have hjl := hR.le
     have hll := hR.len
     have hat := at_rd C j wr hR
     simp only [rd] at hr
     have HK := Lib.hid hK
     have HRd := Lib.hid hR
     have HG := Lib.hid hG
     have HRR := Lib.hid hrr
     clear hK hR hG hrr
     by_cases c1 : comesB C.l j ⟨#[118, 97, 114]⟩ = true
     · rw [if_pos c1] at hr
       by_cases c2 : namedB C.l (j + 1) = true
       · simp only [nameR, if_pos c2, andThen] at hr
         by_cases c3 : comesB C.l (j + 1 + 1) ⟨#[59]⟩ = true
         · simp only [wantR, if_pos c3, andThen] at hr
           have HE := Lib.hid hr
           clear hr
           go_wp2_with (first | (go_at_call 31; with_reducible refine (hat).mono ?_; rintro e w1 ⟨rfl, hR1, hG1⟩) | (go_at_call 32; with_reducible refine (skip_yes C j ⟨#[118, 97, 114]⟩ _ hR1 c1).mono ?_; rintro e w2 ⟨rfl, hR2, hG2⟩) | (go_at_call 34; with_reducible refine (name_yes C (j + 1) _ hR2 c2).mono ?_; rintro e w3 ⟨rfl, hR3, hG3⟩) | (go_at_call 33; with_reducible refine (leaf_any ⟨0, 0, textAt C.l (j + 1), 0, 0, placeOf C.l C.e j⟩ _ _ _ _).mono ?_; rintro e wl ⟨rfl, rfl⟩) | (at_builtin; refine wpList_append_leaf ⟨0, 0, textAt C.l (j + 1), 0, 0, placeOf C.l C.e j⟩ _ _ rfl (.tmp 28) (.tmp 34) rfl H0.out hR3 (grown_trans HG.out (grown_trans hG1 (grown_trans hG2 hG3))) (HK.out.grew hlt (grown_trans hG1 (grown_trans hG2 hG3))) (by omega) rfl rfl ?_; intro v5 w5 K5 hR5 hG5) | (go_at_call 35; with_reducible refine (want_at C (j + 1 + 1) ⟨#[59]⟩ _ _ (by simp) hR5 c3).mono ?_; rintro e w6 ⟨rfl, hR6, hG6⟩))
           have hr := HE.out
           have K6 := K5.grew hlt hG6
           have G6 := grown_trans hG5 hG6
           cases hy : rd C g .prog (j + 1 + 1 + 1) with
           | none => rw [hy] at hr; simp [andThen] at hr
           | some y2 =>
             rw [hy] at hr
             have HY := Lib.hid hy
             have HRY : Hid (rr = prep [leafT 0 (textAt C.l (j + 1)) 0 0 (placeOf C.l C.e j) []] y2) := by
               show rr = prep [leafT 0 (textAt C.l (j + 1)) 0 0 (placeOf C.l C.e j) []] y2
               cases y2 <;> simp [andThen, prep] at hr ⊢ <;> exact hr.symm
             clear hr hy
             go_roundg g
             case measure => omega
             case rel =>
               refine ⟨ks ++ [leafT 0 (textAt C.l (j + 1)) 0 0 (placeOf C.l C.e j) []], (j + 1 + 1 + 1), y2, K6, hR6, G6, by omega, by simp; omega, HY.out, ?_⟩
               rw [HRR.out, HRY.out]
               cases y2 <;> simp [prep]
         · have c3n : comesB C.l (j + 1 + 1) ⟨#[59]⟩ = false := by simpa using c3
           simp only [wantR, if_neg c3, andThen, Option.some.injEq] at hr
           clear c3
           have hrp := HRR.out
           rw [<- hr] at hrp
           simp only [prep] at hrp
           subst hrp
           clear hr HRR
           go_wp2_with (first | (go_at_call 31; with_reducible refine (hat).mono ?_; rintro e w1 ⟨rfl, hR1, hG1⟩) | (go_at_call 32; with_reducible refine (skip_yes C j ⟨#[118, 97, 114]⟩ _ hR1 c1).mono ?_; rintro e w2 ⟨rfl, hR2, hG2⟩) | (go_at_call 34; with_reducible refine (name_yes C (j + 1) _ hR2 c2).mono ?_; rintro e w3 ⟨rfl, hR3, hG3⟩) | (go_at_call 33; with_reducible refine (leaf_any ⟨0, 0, textAt C.l (j + 1), 0, 0, placeOf C.l C.e j⟩ _ _ _ _).mono ?_; rintro e wl ⟨rfl, rfl⟩) | (at_builtin; refine wpList_append_leaf ⟨0, 0, textAt C.l (j + 1), 0, 0, placeOf C.l C.e j⟩ _ _ rfl (.tmp 28) (.tmp 34) rfl H0.out hR3 (grown_trans HG.out (grown_trans hG1 (grown_trans hG2 hG3))) (HK.out.grew hlt (grown_trans hG1 (grown_trans hG2 hG3))) (by omega) rfl rfl ?_; intro v5 w5 K5 hR5 hG5) | (go_at_call 35; with_reducible refine (wantnot_at C (j + 1 + 1) ⟨#[59]⟩ _ _ (by simp) hR5 c3n).mono ?_; rintro e w6 ⟨ch, rfl, hF⟩))
           exact ⟨rfl, _, rfl, hF.later hG5⟩
       · have c2n : namedB C.l (j + 1) = false := by simpa using c2
         simp only [nameR, if_neg c2, andThen, Option.some.injEq] at hr
         clear c2
         have hrp := HRR.out
         rw [<- hr] at hrp
         simp only [prep] at hrp
         subst hrp
         clear hr HRR
         go_wp2_with (first | (go_at_call 31; with_reducible refine (hat).mono ?_; rintro e w1 ⟨rfl, hR1, hG1⟩) | (go_at_call 32; with_reducible refine (skip_yes C j ⟨#[118, 97, 114]⟩ _ hR1 c1).mono ?_; rintro e w2 ⟨rfl, hR2, hG2⟩) | (go_at_call 34; with_reducible refine (name_no C (j + 1) _ hR2 c2n).mono ?_; rintro e w3 ⟨ch, rfl, hF⟩))
         exact ⟨rfl, _, rfl, hF.later (grown_trans HG.out (grown_trans hG1 hG2))⟩
     · rw [if_neg c1] at hr
       have d1 : comesB C.l j ⟨#[118, 97, 114]⟩ = false := by simpa using c1
       clear c1
       by_cases c4 : comesB C.l j ⟨#[97, 114, 114, 97, 121]⟩ = true
       · rw [if_pos c4] at hr
         by_cases c2 : namedB C.l (j + 1) = true
         · simp only [nameR, if_pos c2, andThen] at hr
           by_cases c3 : comesB C.l (j + 1 + 1) ⟨#[91]⟩ = true
           · simp only [wantR, if_pos c3, andThen] at hr
             by_cases c5 : numbB C.l (j + 1 + 1 + 1) = true
             · simp only [numberR, if_pos c5, andThen] at hr
               by_cases c6 : comesB C.l (j + 1 + 1 + 1 + 1) ⟨#[93]⟩ = true
               · simp only [if_pos c6, andThen] at hr
                 by_cases c7 : comesB C.l (j + 1 + 1 + 1 + 1 + 1) ⟨#[59]⟩ = true
                 · simp only [if_pos c7, andThen] at hr
                   have HE := Lib.hid hr
                   clear hr
                   go_wp2_with (first | (go_at_call 31; with_reducible refine (hat).mono ?_; rintro e w1 ⟨rfl, hR1, hG1⟩) | (go_at_call 32; with_reducible refine (skip_not C j ⟨#[118, 97, 114]⟩ _ hR1 d1).mono ?_; rintro e wv ⟨rfl, hRv, hGv⟩) | (go_at_call 32; with_reducible refine (skip_yes C j ⟨#[97, 114, 114, 97, 121]⟩ _ hRv c4).mono ?_; rintro e w2 ⟨rfl, hR2, hG2⟩) | (go_at_call 34; with_reducible refine (name_yes C (j + 1) _ hR2 c2).mono ?_; rintro e w3 ⟨rfl, hR3, hG3⟩; have S3 : StI C wr j w3.heap.size (w3.heap.size + 1) 1 (textAt C.l (j + 1)) 0 (placeOf C.l C.e j) (j + 1 + 1) (w3.alloc (Obj.cells #[Value.int IntKind.i64 0, Value.int IntKind.i64 1, Value.string (textAt C.l (j + 1)), Value.int IntKind.i64 0, Value.int IntKind.i64 0, Value.int IntKind.i64 (placeOf C.l C.e j)] 26)) := ⟨HRd.out, hR3.alloc _, grown_trans (grown_trans hG1 (grown_trans hGv (grown_trans hG2 hG3))) (World.grownBy_alloc _ _ _), six_new _ _ _ _ _ _ _ _, (grown_trans hG1 (grown_trans hGv (grown_trans hG2 hG3))).size, by simp, by simp⟩) | (go_at_call 35; with_reducible refine (want_at C (j + 1 + 1) ⟨#[91]⟩ _ _ (by simp) S3.rd c3).mono ?_; rintro e w4 ⟨rfl, hR4, hG4⟩; have S4 := S3.call hR4 hG4) | (go_at_call 36; with_reducible refine (number_yes C (j + 1 + 1 + 1) _ S4.rd c5).mono ?_; rintro e w5 ⟨rfl, hR5, hG5⟩; have S5 := S4.call hR5 hG5; have zc := S5.six.c3; have zf := S5.six.f3) | (go_at_call 35; with_reducible refine (want_at C (j + 1 + 1 + 1 + 1) ⟨#[93]⟩ _ _ (by simp) (S5.setNum (numAtT C.l (j + 1 + 1 + 1))).rd c6).mono ?_; rintro e w6 ⟨rfl, hR6, hG6⟩; have S6 := (S5.setNum (numAtT C.l (j + 1 + 1 + 1))).call hR6 hG6; have a0 := S6.six.c0; have a1 := S6.six.c1; have a2 := S6.six.c2; have a3 := S6.six.c3; have a4 := S6.six.c4; have a5 := S6.six.c5) | (go_at_call 33; with_reducible refine (leaf_any ⟨0, 1, textAt C.l (j + 1), numAtT C.l (j + 1 + 1 + 1), 0, placeOf C.l C.e j⟩ _ _ _ _).mono ?_; rintro e wl ⟨rfl, rfl⟩) | (at_builtin; refine wpList_append_leaf ⟨0, 1, textAt C.l (j + 1), numAtT C.l (j + 1 + 1 + 1), 0, placeOf C.l C.e j⟩ _ _ rfl (.tmp 52) (.tmp 55) rfl H0.out S6.rd (grown_trans HG.out S6.grew) (HK.out.grew hlt S6.grew) (by omega) rfl rfl ?_; intro v7 w7 K7 hR7 hG7) | (go_at_call 35; with_reducible refine (want_at C (j + 1 + 1 + 1 + 1 + 1) ⟨#[59]⟩ _ _ (by simp) hR7 c7).mono ?_; rintro e w8 ⟨rfl, hR8, hG8⟩))
                   have hr := HE.out
                   have K8 := K7.grew hlt hG8
                   have G8 := grown_trans hG7 hG8
                   cases hy : rd C g .prog (j + 1 + 1 + 1 + 1 + 1 + 1) with
                   | none => rw [hy] at hr; simp [andThen] at hr
                   | some y2 =>
                     rw [hy] at hr
                     have HY := Lib.hid hy
                     have HRY : Hid (rr = prep [leafT 1 (textAt C.l (j + 1)) (numAtT C.l (j + 1 + 1 + 1)) 0 (placeOf C.l C.e j) []] y2) := by
                       show rr = prep [leafT 1 (textAt C.l (j + 1)) (numAtT C.l (j + 1 + 1 + 1)) 0 (placeOf C.l C.e j) []] y2
                       cases y2 <;> simp [andThen, prep] at hr ⊢ <;> exact hr.symm
                     clear hr hy
                     go_roundg g
                     case measure => omega
                     case rel =>
                       refine ⟨ks ++ [leafT 1 (textAt C.l (j + 1)) (numAtT C.l (j + 1 + 1 + 1)) 0 (placeOf C.l C.e j) []], (j + 1 + 1 + 1 + 1 + 1 + 1), y2, K8, hR8, G8, by omega, by simp; omega, HY.out, ?_⟩
                       rw [HRR.out, HRY.out]
                       cases y2 <;> simp [prep]
                 · have c7n : comesB C.l (j + 1 + 1 + 1 + 1 + 1) ⟨#[59]⟩ = false := by simpa using c7
                   simp only [wantR, if_neg c7, andThen, Option.some.injEq] at hr
                   clear c7
                   have hrp := HRR.out
                   rw [<- hr] at hrp
                   simp only [prep] at hrp
                   subst hrp
                   clear hr HRR
                   go_wp2_with (first | (go_at_call 31; with_reducible refine (hat).mono ?_; rintro e w1 ⟨rfl, hR1, hG1⟩) | (go_at_call 32; with_reducible refine (skip_not C j ⟨#[118, 97, 114]⟩ _ hR1 d1).mono ?_; rintro e wv ⟨rfl, hRv, hGv⟩) | (go_at_call 32; with_reducible refine (skip_yes C j ⟨#[97, 114, 114, 97, 121]⟩ _ hRv c4).mono ?_; rintro e w2 ⟨rfl, hR2, hG2⟩) | (go_at_call 34; with_reducible refine (name_yes C (j + 1) _ hR2 c2).mono ?_; rintro e w3 ⟨rfl, hR3, hG3⟩; have S3 : StI C wr j w3.heap.size (w3.heap.size + 1) 1 (textAt C.l (j + 1)) 0 (placeOf C.l C.e j) (j + 1 + 1) (w3.alloc (Obj.cells #[Value.int IntKind.i64 0, Value.int IntKind.i64 1, Value.string (textAt C.l (j + 1)), Value.int IntKind.i64 0, Value.int IntKind.i64 0, Value.int IntKind.i64 (placeOf C.l C.e j)] 26)) := ⟨HRd.out, hR3.alloc _, grown_trans (grown_trans hG1 (grown_trans hGv (grown_trans hG2 hG3))) (World.grownBy_alloc _ _ _), six_new _ _ _ _ _ _ _ _, (grown_trans hG1 (grown_trans hGv (grown_trans hG2 hG3))).size, by simp, by simp⟩) | (go_at_call 35; with_reducible refine (want_at C (j + 1 + 1) ⟨#[91]⟩ _ _ (by simp) S3.rd c3).mono ?_; rintro e w4 ⟨rfl, hR4, hG4⟩; have S4 := S3.call hR4 hG4) | (go_at_call 36; with_reducible refine (number_yes C (j + 1 + 1 + 1) _ S4.rd c5).mono ?_; rintro e w5 ⟨rfl, hR5, hG5⟩; have S5 := S4.call hR5 hG5; have zc := S5.six.c3; have zf := S5.six.f3) | (go_at_call 35; with_reducible refine (want_at C (j + 1 + 1 + 1 + 1) ⟨#[93]⟩ _ _ (by simp) (S5.setNum (numAtT C.l (j + 1 + 1 + 1))).rd c6).mono ?_; rintro e w6 ⟨rfl, hR6, hG6⟩; have S6 := (S5.setNum (numAtT C.l (j + 1 + 1 + 1))).call hR6 hG6; have a0 := S6.six.c0; have a1 := S6.six.c1; have a2 := S6.six.c2; have a3 := S6.six.c3; have a4 := S6.six.c4; have a5 := S6.six.c5) | (go_at_call 33; with_reducible refine (leaf_any ⟨0, 1, textAt C.l (j + 1), numAtT C.l (j + 1 + 1 + 1), 0, placeOf C.l C.e j⟩ _ _ _ _).mono ?_; rintro e wl ⟨rfl, rfl⟩) | (at_builtin; refine wpList_append_leaf ⟨0, 1, textAt C.l (j + 1), numAtT C.l (j + 1 + 1 + 1), 0, placeOf C.l C.e j⟩ _ _ rfl (.tmp 52) (.tmp 55) rfl H0.out S6.rd (grown_trans HG.out S6.grew) (HK.out.grew hlt S6.grew) (by omega) rfl rfl ?_; intro v7 w7 K7 hR7 hG7) | (go_at_call 35; with_reducible refine (wantnot_at C (j + 1 + 1 + 1 + 1 + 1) ⟨#[59]⟩ _ _ (by simp) hR7 c7n).mono ?_; rintro e w8 ⟨ch, rfl, hF⟩))
                   exact ⟨rfl, _, rfl, hF.later hG7⟩
               · have c6n : comesB C.l (j + 1 + 1 + 1 + 1) ⟨#[93]⟩ = false := by simpa using c6
                 simp only [wantR, if_neg c6, andThen, Option.some.injEq] at hr
                 clear c6
                 have hrp := HRR.out
                 rw [<- hr] at hrp
                 simp only [prep] at hrp
                 subst hrp
                 clear hr HRR
                 go_wp2_with (first | (go_at_call 31; with_reducible refine (hat).mono ?_; rintro e w1 ⟨rfl, hR1, hG1⟩) | (go_at_call 32; with_reducible refine (skip_not C j ⟨#[118, 97, 114]⟩ _ hR1 d1).mono ?_; rintro e wv ⟨rfl, hRv, hGv⟩) | (go_at_call 32; with_reducible refine (skip_yes C j ⟨#[97, 114, 114, 97, 121]⟩ _ hRv c4).mono ?_; rintro e w2 ⟨rfl, hR2, hG2⟩) | (go_at_call 34; with_reducible refine (name_yes C (j + 1) _ hR2 c2).mono ?_; rintro e w3 ⟨rfl, hR3, hG3⟩; have S3 : StI C wr j w3.heap.size (w3.heap.size + 1) 1 (textAt C.l (j + 1)) 0 (placeOf C.l C.e j) (j + 1 + 1) (w3.alloc (Obj.cells #[Value.int IntKind.i64 0, Value.int IntKind.i64 1, Value.string (textAt C.l (j + 1)), Value.int IntKind.i64 0, Value.int IntKind.i64 0, Value.int IntKind.i64 (placeOf C.l C.e j)] 26)) := ⟨HRd.out, hR3.alloc _, grown_trans (grown_trans hG1 (grown_trans hGv (grown_trans hG2 hG3))) (World.grownBy_alloc _ _ _), six_new _ _ _ _ _ _ _ _, (grown_trans hG1 (grown_trans hGv (grown_trans hG2 hG3))).size, by simp, by simp⟩) | (go_at_call 35; with_reducible refine (want_at C (j + 1 + 1) ⟨#[91]⟩ _ _ (by simp) S3.rd c3).mono ?_; rintro e w4 ⟨rfl, hR4, hG4⟩; have S4 := S3.call hR4 hG4) | (go_at_call 36; with_reducible refine (number_yes C (j + 1 + 1 + 1) _ S4.rd c5).mono ?_; rintro e w5 ⟨rfl, hR5, hG5⟩; have S5 := S4.call hR5 hG5; have zc := S5.six.c3; have zf := S5.six.f3) | (go_at_call 35; with_reducible refine (wantnot_at C (j + 1 + 1 + 1 + 1) ⟨#[93]⟩ _ _ (by simp) (S5.setNum (numAtT C.l (j + 1 + 1 + 1))).rd c6n).mono ?_; rintro e w6 ⟨ch, rfl, hF⟩))
                 exact ⟨rfl, _, rfl, hF.later (grown_trans HG.out (S5.setNum (numAtT C.l (j + 1 + 1 + 1))).grew)⟩
             · have c5n : numbB C.l (j + 1 + 1 + 1) = false := by simpa using c5
               simp only [numberR, if_neg c5, andThen, Option.some.injEq] at hr
               clear c5
               have hrp := HRR.out
               rw [<- hr] at hrp
               simp only [prep] at hrp
               subst hrp
               clear hr HRR
               go_wp2_with (first | (go_at_call 31; with_reducible refine (hat).mono ?_; rintro e w1 ⟨rfl, hR1, hG1⟩) | (go_at_call 32; with_reducible refine (skip_not C j ⟨#[118, 97, 114]⟩ _ hR1 d1).mono ?_; rintro e wv ⟨rfl, hRv, hGv⟩) | (go_at_call 32; with_reducible refine (skip_yes C j ⟨#[97, 114, 114, 97, 121]⟩ _ hRv c4).mono ?_; rintro e w2 ⟨rfl, hR2, hG2⟩) | (go_at_call 34; with_reducible refine (name_yes C (j + 1) _ hR2 c2).mono ?_; rintro e w3 ⟨rfl, hR3, hG3⟩; have S3 : StI C wr j w3.heap.size (w3.heap.size + 1) 1 (textAt C.l (j + 1)) 0 (placeOf C.l C.e j) (j + 1 + 1) (w3.alloc (Obj.cells #[Value.int IntKind.i64 0, Value.int IntKind.i64 1, Value.string (textAt C.l (j + 1)), Value.int IntKind.i64 0, Value.int IntKind.i64 0, Value.int IntKind.i64 (placeOf C.l C.e j)] 26)) := ⟨HRd.out, hR3.alloc _, grown_trans (grown_trans hG1 (grown_trans hGv (grown_trans hG2 hG3))) (World.grownBy_alloc _ _ _), six_new _ _ _ _ _ _ _ _, (grown_trans hG1 (grown_trans hGv (grown_trans hG2 hG3))).size, by simp, by simp⟩) | (go_at_call 35; with_reducible refine (want_at C (j + 1 + 1) ⟨#[91]⟩ _ _ (by simp) S3.rd c3).mono ?_; rintro e w4 ⟨rfl, hR4, hG4⟩; have S4 := S3.call hR4 hG4) | (go_at_call 36; with_reducible refine (number_no C (j + 1 + 1 + 1) _ S4.rd c5n).mono ?_; rintro e w5 ⟨ch, rfl, hF⟩))
               exact ⟨rfl, _, rfl, hF.later (grown_trans HG.out S4.grew)⟩
           · have c3n : comesB C.l (j + 1 + 1) ⟨#[91]⟩ = false := by simpa using c3
             simp only [wantR, if_neg c3, andThen, Option.some.injEq] at hr
             clear c3
             have hrp := HRR.out
             rw [<- hr] at hrp
             simp only [prep] at hrp
             subst hrp
             clear hr HRR
             go_wp2_with (first | (go_at_call 31; with_reducible refine (hat).mono ?_; rintro e w1 ⟨rfl, hR1, hG1⟩) | (go_at_call 32; with_reducible refine (skip_not C j ⟨#[118, 97, 114]⟩ _ hR1 d1).mono ?_; rintro e wv ⟨rfl, hRv, hGv⟩) | (go_at_call 32; with_reducible refine (skip_yes C j ⟨#[97, 114, 114, 97, 121]⟩ _ hRv c4).mono ?_; rintro e w2 ⟨rfl, hR2, hG2⟩) | (go_at_call 34; with_reducible refine (name_yes C (j + 1) _ hR2 c2).mono ?_; rintro e w3 ⟨rfl, hR3, hG3⟩; have S3 : StI C wr j w3.heap.size (w3.heap.size + 1) 1 (textAt C.l (j + 1)) 0 (placeOf C.l C.e j) (j + 1 + 1) (w3.alloc (Obj.cells #[Value.int IntKind.i64 0, Value.int IntKind.i64 1, Value.string (textAt C.l (j + 1)), Value.int IntKind.i64 0, Value.int IntKind.i64 0, Value.int IntKind.i64 (placeOf C.l C.e j)] 26)) := ⟨HRd.out, hR3.alloc _, grown_trans (grown_trans hG1 (grown_trans hGv (grown_trans hG2 hG3))) (World.grownBy_alloc _ _ _), six_new _ _ _ _ _ _ _ _, (grown_trans hG1 (grown_trans hGv (grown_trans hG2 hG3))).size, by simp, by simp⟩) | (go_at_call 35; with_reducible refine (wantnot_at C (j + 1 + 1) ⟨#[91]⟩ _ _ (by simp) S3.rd c3n).mono ?_; rintro e w4 ⟨ch, rfl, hF⟩))
             exact ⟨rfl, _, rfl, hF.later (grown_trans HG.out S3.grew)⟩
         · have c2n : namedB C.l (j + 1) = false := by simpa using c2
           simp only [nameR, if_neg c2, andThen, Option.some.injEq] at hr
           clear c2
           have hrp := HRR.out
           rw [<- hr] at hrp
           simp only [prep] at hrp
           subst hrp
           clear hr HRR
           go_wp2_with (first | (go_at_call 31; with_reducible refine (hat).mono ?_; rintro e w1 ⟨rfl, hR1, hG1⟩) | (go_at_call 32; with_reducible refine (skip_not C j ⟨#[118, 97, 114]⟩ _ hR1 d1).mono ?_; rintro e wv ⟨rfl, hRv, hGv⟩) | (go_at_call 32; with_reducible refine (skip_yes C j ⟨#[97, 114, 114, 97, 121]⟩ _ hRv c4).mono ?_; rintro e w2 ⟨rfl, hR2, hG2⟩) | (go_at_call 34; with_reducible refine (name_no C (j + 1) _ hR2 c2n).mono ?_; rintro e w3 ⟨ch, rfl, hF⟩))
           exact ⟨rfl, _, rfl, hF.later (grown_trans HG.out (grown_trans hG1 (grown_trans hGv hG2)))⟩
       · rw [if_neg c4] at hr
         have d4 : comesB C.l j ⟨#[97, 114, 114, 97, 121]⟩ = false := by simpa using c4
         clear c4
         have hSt := (stmts_all C g).2.2
         cases hx : rd C g .stmts j with
         | none => rw [hx] at hr; cases hr
         | some y =>
           rw [hx] at hr
           have hS := fun W a => hSt j W y hx a
           clear hSt
           cases y with
           | no p =>
             simp only [andThen, Option.some.injEq] at hr
             have hS := fun W a => calls_no (hS W a)
             have hrp := HRR.out
             rw [<- hr] at hrp
             simp only [prep] at hrp
             subst hrp
             clear hr HRR hx
             go_wp2_with (first | (go_at_call 31; with_reducible refine (hat).mono ?_; rintro e w1 ⟨rfl, hR1, hG1⟩) | (go_at_call 32; with_reducible refine (skip_not C j ⟨#[118, 97, 114]⟩ _ hR1 d1).mono ?_; rintro e wv ⟨rfl, hRv, hGv⟩) | (go_at_call 32; with_reducible refine (skip_not C j ⟨#[97, 114, 114, 97, 121]⟩ _ hRv d4).mono ?_; rintro e w2 ⟨rfl, hR2, hG2⟩) | (go_at_call 37; with_reducible refine (hS _ hR2).mono ?_; rintro e w4 ⟨ch, rfl, hF⟩))
             exact ⟨rfl, _, rfl, hF.later (grown_trans HG.out (grown_trans hG1 (grown_trans hGv hG2)))⟩
           | ok ts j2 =>
             have hS := fun W a => calls_kids (hS W a)
             have hcnt := stmts_count hx
             have HE := Lib.hid hr
             clear hr hx
             go_wp2_with (first | (go_at_call 31; with_reducible refine (hat).mono ?_; rintro e w1 ⟨rfl, hR1, hG1⟩) | (go_at_call 32; with_reducible refine (skip_not C j ⟨#[118, 97, 114]⟩ _ hR1 d1).mono ?_; rintro e wv ⟨rfl, hRv, hGv⟩) | (go_at_call 32; with_reducible refine (skip_not C j ⟨#[97, 114, 114, 97, 121]⟩ _ hRv d4).mono ?_; rintro e w2 ⟨rfl, hR2, hG2⟩) | (go_at_call 37; with_reducible refine (hS _ hR2).mono ?_; rintro e w4 ⟨v4, rfl, K4, hR4, hG4⟩) | (at_builtin; refine wpList_append_kids (wk := w2) rfl (.tmp 8) (.tmp 10) rfl H0.out hR4 (grown_trans HG.out (grown_trans hG1 (grown_trans hGv (grown_trans hG2 hG4)))) (HK.out.grew hlt (grown_trans hG1 (grown_trans hGv (grown_trans hG2 hG4)))) (fun k hk => ((HK.out.grew hlt (grown_trans hG1 (grown_trans hGv hG2))).row hlt hk).2.2) (grown_trans HG.out (grown_trans hG1 (grown_trans hGv hG2))).size K4 (by have := hR4.le; omega) rfl rfl ?_; intro v5 w5 K5 hR5 hG5))
             have hr := HE.out
             simp only [andThen] at hr
             have HK5 := Lib.hid K5
             have HR5 := Lib.hid hR5
             have HG5 := Lib.hid hG5
             obtain ⟨⟨b0, cp, g0, q0, _, hcap, _, _⟩, q1, _, _, hle2, hlen2, _, _, _⟩ := hR5
             have hF5 := fun m => fail_any C j2 _ (HR5.out.drewN m)
             clear K5 hG5
             by_cases hlt2 : j2 < C.l.length
             · rw [if_pos hlt2] at hr
               have hrp := HRR.out
               rw [<- Option.some.inj hr] at hrp
               simp only [prep] at hrp
               subst hrp
               have hdd : decide ((j2 : Int) < (C.l.length : Int)) = true := by simp; omega
               clear hr HRR HE
               go_quiet (fail)
               go_wp2_with (go_at_call 38; refine (hF5 _).mono ?_; rintro e w' ⟨ch, rfl, hF2⟩)
               exact ⟨rfl, _, rfl, hF2.later (grown_trans HG5.out (Grew.drewN w5 _))⟩
             · rw [if_neg hlt2] at hr
               have hrp := HRR.out
               rw [<- Option.some.inj hr] at hrp
               simp only [prep] at hrp
               subst hrp
               have hdd : decide ((j2 : Int) < (C.l.length : Int)) = false := by simp; omega
               clear hr HRR HE
               go_quiet (fail)
               go_wp2_with fail
               go_ret
               exact ⟨_, j2, rfl, HK5.out.grew hlt (Grew.drewN w5 _), HR5.out.drewN _, grown_trans HG5.out (Grew.drewN w5 _)⟩
end Go.Proofs.YtonmcakdofbjiaaDoor
namespace Go.Proofs.YtonmcakdofbjiaaDoor
open Go.RowKit
mutual
def flatT : Tr -> Int -> List Nd
 | .mk n ks, d => ⟨d, n.kind, n.name, n.num, n.op, n.at_⟩ :: flatTs ks (d + 1)
def flatTs : List Tr -> Int -> List Nd
 | [], _ => []
 | t :: ts, d => flatT t d ++ flatTs ts d
end
def ndCells (l : List Nd) : List Value := l.flatMap Nd.cells
theorem flatTs_append (a b : List Tr) (d : Int) : flatTs (a ++ b) d = flatTs a d ++ flatTs b d := by
 induction a with
 | nil => simp [flatTs]
 | cons x a ih => simp [flatTs, ih]
theorem newNd (w : World) (n : Nd) : ∀ (j : Nat) (u : Value), n.cells[j]? = some u -> (w.alloc (.cells #[.int .i64 n.depth, .int .i64 n.kind, .string n.name, .int .i64 n.num, .int .i64 n.op, .int .i64 n.at_] 26)).cell? ((⟨w.heap.size, 0, none⟩ : Addr).add j) = some u := by
 intro j u hj
 match j, hj with
 | 0, hj => simp [Nd.cells] at hj; subst hj; simp [go_sem, Addr.add]
 | 1, hj => simp [Nd.cells] at hj; subst hj; simp [go_sem, Addr.add]
 | 2, hj => simp [Nd.cells] at hj; subst hj; simp [go_sem, Addr.add]
 | 3, hj => simp [Nd.cells] at hj; subst hj; simp [go_sem, Addr.add]
 | 4, hj => simp [Nd.cells] at hj; subst hj; simp [go_sem, Addr.add]
 | 5, hj => simp [Nd.cells] at hj; subst hj; simp [go_sem, Addr.add]
 | j + 6, hj => simp [Nd.cells] at hj
theorem cellNd (n : Nd) : ∀ u ∈ n.cells, u.oneCell' = true := by
 intro u hu
 simp only [Nd.cells, List.mem_cons, List.not_mem_nil, or_false] at hu
 rcases hu with rfl | rfl | rfl | rfl | rfl | rfl <;> rfl
def FlatC (A B : Nat) (w0 : World) (p : Nat) (t : Tr) : Prop :=
 ∀ (w : World) (v : Value) (l : List Nd) (d : Int), (∀ k, A <= k -> k < B -> w.heap[k]? = w0.heap[k]?) -> B <= w.heap.size -> w.ownsRow B 26 6 v l.length (ndCells l) -> 0 <= d -> d + (flatT t 0).length <= 100000 -> l.length + (flatT t 0).length <= 100000 ->
   Calls Tryd.prog 22 #[.pointer (some ⟨p, 0, none⟩), v, .int .i64 d] w fun e w' => ∃ v', e = .returned v' /\ Below B w w' /\ w'.ownsRow B 26 6 v' (l ++ flatT t d).length (ndCells (l ++ flatT t d))
mutual
theorem flatT_length (d e : Int) : ∀ t : Tr, (flatT t d).length = (flatT t e).length
 | .mk n ks => by simp [flatT, flatTs_length (d + 1) (e + 1) ks]
theorem flatTs_length (d e : Int) : ∀ ts : List Tr, (flatTs ts d).length = (flatTs ts e).length
 | [] => rfl
 | t :: ts => by simp [flatTs, flatT_length d e t, flatTs_length d e ts]
end
theorem flatTs_ge (d : Int) : ∀ ts : List Tr, ts.length <= (flatTs ts d).length
 | [] => Nat.le_refl _
 | .mk n ks :: ts => by have := flatTs_ge d ts; simp [flatTs, flatT]; omega
theorem flat_any (A B : Nat) (w0 : World) (hB0 : B <= w0.heap.size) (p : Nat) (t : Tr) (h : TrAt (fun k => B <= k \/ k < A) w0 p t) : FlatC A B w0 p t := by
 induction h with
 | mk p n ks b cap g q hp hpr hb hgr hcap hc hk ih =>
   intro w v l d hbw hBw hown hd hdn hln
   have hpB : p < B := by omega
   have hpA : A <= p := by omega
   have hpw : w.heap[p]? = some (.cells #[.int .i64 n.depth, .int .i64 n.kind, .string n.name, .int .i64 n.num, .int .i64 n.op, .int .i64 n.at_, .slice b ks.length cap] 84 (0, 0)) := (hbw p hpA hpB).trans hp
   have c0 := cell_put hpw (o := 0) rfl
   have c1 := cell_put hpw (o := 1) rfl
   have c2 := cell_put hpw (o := 2) rfl
   have c3 := cell_put hpw (o := 3) rfl
   have c4 := cell_put hpw (o := 4) rfl
   have c5 := cell_put hpw (o := 5) rfl
   have c6 := cell_put hpw (o := 6) rfl
   have hpl : p < w.heap.size := by omega
   obtain ⟨ti, hi, hz0, hz1, hz2⟩ := info_parts info50
   have HO := Lib.hid hown
   have HB := Lib.hid hbw
   have HC := Lib.hid hc
   have HI := Lib.hid ih
   have HG := Lib.hid hgr
   have HBB := Lib.hid hb
   have hlen0 : (flatT (.mk n ks) 0).length = 1 + (flatTs ks 1).length := by simp [flatT]; omega
   clear hown hbw hc ih hp hpw hk hgr hb
   go_enter Tryd.func22, Tryd.ntmps22
   go_wp2_with (at_builtin; refine wpList_append_own _ rfl (.tmp 16) (.tmp 18) 22 rfl B 26 ti _ 6 56 Tryd.underlying22 hi hz0 hz1 hz2 rfl (by decide) _ _ _ rfl ((HO.out.alloc _).alloc _) ⟨w.heap.size + 1, 0, none⟩ 1 1 (Nd.cells ⟨d, n.kind, n.name, n.num, n.op, n.at_⟩) rfl rfl (by simpa using newNd (w.alloc (.cells #[.int .i64 d, .int .i64 n.kind, .string n.name, .int .i64 n.num, .int .i64 n.op, .int .i64 n.at_] 26)) ⟨d, n.kind, n.name, n.num, n.op, n.at_⟩) (cellNd _) (by simp [maxLen]; omega) (by omega) (by simp; omega) ?_; intro v1 w1 hown1 hgrow1 _; have B1 : Below B w w1 := (((Below.refl B w).alloc hBw _).alloc (by simp; omega) _).grown hgrow1 (by simp; omega) (fun k hk => (HO.out.lt k hk).1); have c6b : w1.cell? ⟨p, 6, none⟩ = some (.slice b ks.length cap) := (B1.cell (p := ⟨p, 6, none⟩) hpB).trans c6)
   have HO1 := Lib.hid hown1
   have HB1 := Lib.hid B1
   have hBw1 : B <= w1.heap.size := Nat.le_trans hBw B1.size
   clear hown1 hgrow1 B1 c0 c1 c2 c3 c4 c5 c6 c6b
   go_loopg [1, 25] ks.length (fun gg x i wr => ∃ k : Nat, i = .int .i64 k /\ k <= ks.length /\ gg = ks.length - k /\ Below B w wr /\ B <= wr.heap.size /\ wr.ownsRow B 26 6 x (l ++ ⟨d, n.kind, n.name, n.num, n.op, n.at_⟩ :: flatTs (ks.take k) (d + 1)).length (ndCells (l ++ ⟨d, n.kind, n.name, n.num, n.op, n.at_⟩ :: flatTs (ks.take k) (d + 1))))
   case atStart => exact ⟨0, rfl, Nat.zero_le _, rfl, HB1.out, hBw1, by simpa [flatTs, ndCells] using HO1.out⟩
   case round =>
     obtain ⟨k, rfl, hk, hgg, hbr, hbs, hor⟩ := hrel
     have HOR := Lib.hid hor
     have HBR := Lib.hid hbr
     have HGG := Lib.hid hgg
     clear hor hbr hgg
     by_cases hlt : k < ks.length
     · have hkb : k < 100000 := by have := flatTs_ge 1 ks; omega
       obtain ⟨u, hu⟩ : ∃ u, ks[k]? = some u := ⟨_, List.getElem?_eq_getElem hlt⟩
       have hne : ks ≠ [] := by rintro rfl; simp at hlt
       have hbe := HBB.out hne
       subst hbe
       have hgB : g < B := by have := HG.out hne; omega
       have hgA : A <= g := by have := HG.out hne; omega
       have hcell : wr.cell? ⟨g, k, none⟩ = some (.pointer (some ⟨q k, 0, none⟩)) := (HBR.out.cell (p := ⟨g, k, none⟩) hgB).trans ((World.cell?_of_block (a := ⟨g, k, none⟩) (HB.out g hgA hgB)).trans (HC.out k u hu))
       have hcnt : (flatTs (ks.take k) 1).length + (flatT u 1).length <= (flatTs ks 1).length := by
         have e : ks = ks.take k ++ u :: ks.drop (k + 1) := by
           rw [List.getElem?_eq_getElem hlt] at hu
           rw [<- Option.some.inj hu, List.getElem_cons_drop, List.take_append_drop]
         have e2 := congrArg (fun x => (flatTs x 1).length) e
         simp only [flatTs_append, flatTs, List.length_append] at e2
         omega
       have l1 := flatTs_length (d + 1) 1 (ks.take k)
       have l2 := flatT_length (d + 1) 1 u
       have l3 := flatT_length 0 1 u
       have hcall := HI.out k u hu wr _ _ (d + 1) (fun x h1 h2 => (HBR.out.block x h2).trans (HB.out x h1 h2)) hbs HOR.out (by omega) (by omega) (by simp only [List.length_append, List.length_cons]; omega)
       have HU := Lib.hid hu
       clear hu hcnt l1 l2 l3
       go_wp2_with (go_at_call 22; refine (hcall).mono ?_; rintro e w' ⟨v', rfl, hb', ho'⟩)
       go_roundg (ks.length - (k + 1))
       case measure => have := HGG.out; omega
       case rel =>
         refine ⟨k + 1, by go_num, by omega, rfl, HBR.out.trans hb', Nat.le_trans hbs hb'.size, ?_⟩
         have e : ks.take (k + 1) = ks.take k ++ [u] := by rw [List.take_add_one, HU.out]; rfl
         rw [e, flatTs_append]
         simpa [flatTs] using ho'
     · have hkk : k = ks.length := by omega
       have e : ks.take k = ks := by rw [hkk]; exact List.take_length
       have HE := Lib.hid e
       clear hkk e
       go_wp2
       go_ret
       refine ⟨_, rfl, HBR.out, ?_⟩
       have h := HOR.out
       rw [HE.out] at h
       simpa [flatT] using h
end Go.Proofs.YtonmcakdofbjiaaDoor
namespace Go.Proofs.YtonmcakdofbjiaaDoor
open Go.RowKit
theorem pcatch_idle (p q : Addr) (w : World) :
   CallsD Tryd.prog 20 #[.pointer (some p), .pointer (some q)] .returning w fun e u' w' => e = .returned (.tuple #[]) /\ u' = .returning /\ w' = w := by
 refine callsD_of_wpS Tryd.func20 rfl fun c₀ cs hu => ?_
 apply wpS_seq
 apply wpS_region
 simp [wpOpsS, go_sem, recoverD, hu, Tryd.ntmps20, Exit.thenS]
 refine wpS_of_wp ?_
 simp only [Array.replicate_succ, Array.replicate_zero, List.push_toArray, List.append_toArray, List.nil_append, List.cons_append, List.setIfInBounds_toArray, List.set_cons_succ, List.set_cons_zero]
 go_wp2
 cases c₀
 simp_all [bodyPostS, results, Tryd.results20]
theorem pcatch_panicking (b g : Nat) (v0 : Option Addr) (n0 m0 : Nat) (w : World) (c1 : w.cell? ⟨b, 0, none⟩ = some (.slice v0 n0 m0)) (c2 : w.cell? ⟨b + 1, 0, none⟩ = some .nilIface) (fp : w.frozen? ⟨b, 0, none⟩ = false) (fq : w.frozen? ⟨b + 1, 0, none⟩ = false) (hl : b + 1 < w.heap.size) :
   CallsD Tryd.prog 20 #[.pointer (some ⟨b, 0, none⟩), .pointer (some ⟨b + 1, 0, none⟩)] (.panicking [{ v := .iface 54 (.pointer (some ⟨g, 0, none⟩)), recovered := false }]) w fun e u' w' => e = .returned (.tuple #[]) /\ u' = .panicking [{ v := .iface 54 (.pointer (some ⟨g, 0, none⟩)), recovered := true }] /\ w' = (w.setCell ⟨b, 0, none⟩ (.slice none 0 0)).setCell ⟨b + 1, 0, none⟩ (.iface 54 (.pointer (some ⟨g, 0, none⟩))) := by
 have ta : ∀ w, (Instr.typeAssert (.iface 54 (.pointer (some ⟨g, 0, none⟩))) 20 54 true).run Tryd.prog w = .ok (.tuple #[.pointer (some ⟨g, 0, none⟩), .bool true]) w := fun w => by kernel_rfl
 refine callsD_of_wpS Tryd.func20 rfl fun c₀ cs hu => ?_
 apply wpS_seq
 apply wpS_region
 simp [wpOpsS, go_sem, recoverD, hu, Tryd.ntmps20, Exit.thenS, ta]
 refine wpS_of_wp ?_
 simp only [Array.replicate_succ, Array.replicate_zero, List.push_toArray, List.append_toArray, List.nil_append, List.cons_append, List.setIfInBounds_toArray, List.set_cons_succ, List.set_cons_zero]
 go_wp2
 cases c₀
 simp_all [bodyPostS, results, Tryd.results20]
end Go.Proofs.YtonmcakdofbjiaaDoor
namespace Go.Proofs.YtonmcakdofbjiaaDoor
def Le {α : Type} (x y : Option (Res α)) : Prop := ∀ r, x = some r -> y = some r
theorem Le.refl {α : Type} (x : Option (Res α)) : Le x x := fun _ h => h
/-! ### there is an answer -/
def Mon {α : Type} (X : Nat -> Option (Res α)) : Prop := ∀ f f', f <= f' -> Le (X f) (X f')
def Ex {α : Type} (X : Nat -> Option (Res α)) : Prop := ∃ f r, X f = some r
def rank : NT -> Nat
 | .row k => 2 * (6 - k) + 3
 | .rest _ _ => 0
 | .unary => 2
 | .atom => 1
 | .stmt => 16
 | .stmts => 17
 | .block => 18
 | .prog => 18
def meas (C : Ctx) (nt : NT) (i : Nat) : Nat := (C.l.length - i) * 20 + rank nt
end Go.Proofs.YtonmcakdofbjiaaDoor
namespace Go.Proofs.YtonmcakdofbjiaaDoor
def nodes (ts : List Tr) : Nat := (flatTs ts 0).length
theorem nodes_nil : nodes [] = 0 := rfl
theorem nodes_append (a b : List Tr) : nodes (a ++ b) = nodes a + nodes b := by simp [nodes, flatTs_append]
theorem nodes_cons (t : Tr) (b : List Tr) : nodes (t :: b) = nodes [t] + nodes b := nodes_append [t] b
theorem nodes_leaf (k : Int) (n : ByteArray) (x o a : Int) (ks : List Tr) : nodes [leafT k n x o a ks] = 1 + nodes ks := by
 simp only [nodes, flatTs, leafT, flatT, List.length_append, List.length_cons, List.length_nil, flatTs_length (0 + 1) 0 ks]
 omega
def Cn (i m : Nat) (x : Option (Res (List Tr))) : Prop := ∀ ts j, x = some (.ok ts j) -> i + nodes ts <= j + m
def lefts : NT -> Nat
 | .rest _ left => nodes [left]
 | _ => 0
theorem then_ok {α β : Type} {x : Option (Res α)} {F : α -> Nat -> Option (Res β)} {b : β} {j : Nat} (h : andThen x F = some (.ok b j)) : ∃ a k, x = some (.ok a k) /\ F a k = some (.ok b j) := by
 cases x with
 | none => cases h
 | some y => cases y with
   | no p => simp [andThen] at h
   | ok a k => exact ⟨a, k, rfl, h⟩
theorem want_ok {C : Ctx} {s : ByteArray} {i k : Nat} {u : Unit} (h : wantR C s i = some (.ok u k)) : k = i + 1 := by
 unfold wantR at h; split at h
 · cases h; rfl
 · cases h
theorem name_ok {C : Ctx} {i k : Nat} {u : ByteArray} (h : nameR C i = some (.ok u k)) : k = i + 1 := by
 unfold nameR at h; split at h
 · cases h; rfl
 · cases h
theorem number_ok {C : Ctx} {i k : Nat} {u : Int} (h : numberR C i = some (.ok u k)) : k = i + 1 := by
 unfold numberR at h; split at h
 · cases h; rfl
 · cases h
theorem cn_then {α : Type} {i m : Nat} {x : Option (Res α)} {F : α -> Nat -> Option (Res (List Tr))} (k : ∀ a j, x = some (.ok a j) -> Cn i m (F a j)) : Cn i m (andThen x F) := by
 intro ts j h
 obtain ⟨a, k', h1, h2⟩ := then_ok h
 exact k a k' h1 ts j h2
theorem cn_ok {i m k : Nat} {ts : List Tr} (h : i + nodes ts <= k + m) : Cn i m (some (.ok ts k)) := fun _ _ e => by cases e; exact h
theorem cn_no {i m : Nat} {p : Int} : Cn i m (some (.no p)) := fun _ _ e => by cases e
theorem cn_none {i m : Nat} : Cn i m none := fun _ _ e => by cases e
theorem rd_nodes (C : Ctx) : ∀ (f : Nat) (nt : NT) (i : Nat), Cn i (lefts nt) (rd C f nt i) := by
 intro f
 induction f with
 | zero => intro nt i; exact cn_none
 | succ f ih =>
   intro nt i
   cases nt with
   | row k =>
     simp only [rd]
     split
     · exact ih .unary i
     · refine cn_then fun a j h => ?_
       have h1 := ih _ _ _ _ h
       split
       · intro ts m h2
         have h3 := ih _ _ _ _ h2
         simp only [lefts] at h1 h3 ⊢
         omega
       · exact cn_none
   | rest k left =>
     simp only [rd]
     split
     · exact cn_ok (by simp [lefts])
     · refine cn_then fun a j h => ?_
       have h1 := ih _ _ _ _ h
       simp only [lefts] at h1
       split
       · have e2 := nodes_cons left
         split
         · refine cn_ok ?_
           rw [nodes_leaf, e2]
           simp only [lefts]
           omega
         · intro ts m h2
           have h3 : _ + nodes ts <= m + nodes [_] := ih _ _ _ _ h2
           rw [nodes_leaf, e2] at h3
           show i + nodes ts <= m + nodes [left]
           omega
       · exact cn_none
   | _ =>
     simp only [rd]
     repeat' first
       | exact cn_none
       | exact cn_no
       | (refine cn_then fun _ _ h => ?_; first | (have h1 := want_ok h; clear h) | (have h1 := name_ok h; clear h) | (have h1 := number_ok h; clear h) | (have h1 := ih _ _ _ _ h; simp only [lefts] at h1; clear h))
       | (exact ih _ _)
       | (refine cn_ok ?_; simp only [lefts, nodes_leaf, nodes_append, nodes_nil]; omega)
       | (refine cn_ok ?_; rw [nodes_cons, nodes_leaf]; simp only [lefts, nodes_nil]; omega)
       | split
end Go.Proofs.YtonmcakdofbjiaaDoor
