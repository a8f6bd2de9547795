/-
  The parts: Shp9 Shp10 Shp11 Sam1 Fix1 Fix2
-/
import Derived.Test.YtonmcakdofbjiaaGreatDoorV27
import Derived.Laws.StructEq
import Derived.Test.YtonmcakdofbjiaaGreatDoorV25
set_option linter.unusedVariables false
set_option linter.unusedSimpArgs false
set_option linter.unusedSectionVars false
set_option linter.unnecessarySimpa false
set_option maxRecDepth 100000
set_option maxHeartbeats 8000000
namespace Go.Proofs.YtonmcakdofbjiaaGreatDoor
open Go.RowKit
theorem stand_refuse {w w' : World} {B r gb : Nat} {o : List Hold} {heads : Bool} {n : Nd} (hn : takeF o heads n = none) (ha : Ap r gb w w') : StandPost w B r gb o heads n (.returned (.bool false)) w' := by
 refine ⟨ha, ?_⟩
 have : standF o heads n = none := by
   unfold standF
   split
   · rfl
   · rw [hn]
 rw [this]
theorem set_depth {o : List Hold} (hd : ∀ (j : Nat) (x : Hold), o[j]? = some x -> x.depth = j + 1) {u : Nat} {g g' : Hold} (hg : o[u]? = some g) (he : g'.depth = g.depth) : ∀ (j : Nat) (x : Hold), (o.set u g')[j]? = some x -> x.depth = j + 1 := by
 intro j x hx
 rw [List.getElem?_set] at hx
 split at hx
 · rename_i e
   split at hx
   · cases hx; subst e; rw [he]; exact hd u g hg
   · cases hx
 · exact hd j x hx
theorem res51 (t : Array Value) (b : Bool) (h : t.getD 4 undef = .bool b) (w : World) : (results Tryz.f51 t).run Tryz.prog w = .ok (.bool b) w := by
 have hr : Tryz.f51.results = #[.tmp 4] := rfl
 rw [Array.getD_eq_getD_getElem?] at h
 simp [results, hr, h]
noncomputable def st3 : Code := seqL (seqR (seqR st0))
theorem st0_is : st0 = .seq (seqL st0) (.seq (seqL (seqR st0)) (.seq st3 stTail)) := rfl
def F3 (r N : Nat) (depth kind : Int) (name : ByteArray) (num op at_ : Int) : Act := ⟨((.pointer (some ⟨r, 0, none⟩)) :: (.agg #[.int .i64 depth, .int .i64 kind, .string name, .int .i64 num, .int .i64 op, .int .i64 at_]) :: undef :: (.pointer (some ⟨N, 0, none⟩)) :: (.bool false) :: undef :: undef :: undef :: undef :: (.agg #[.int .i64 depth, .int .i64 kind, .string name, .int .i64 num, .int .i64 op, .int .i64 at_]) :: (.bool true) :: (.bool false) :: undef :: undef :: undef :: undef :: undef :: undef :: undef :: undef :: undef :: undef :: undef :: undef :: undef :: undef :: undef :: undef :: undef :: undef :: undef :: undef :: undef :: undef :: undef :: undef :: undef :: undef :: undef :: undef :: undef :: undef :: undef :: undef :: undef :: undef :: undef :: undef :: undef :: undef :: undef :: undef :: undef :: undef :: undef :: undef :: undef :: undef :: undef :: undef :: undef :: undef :: undef :: undef :: undef :: undef :: undef :: undef :: undef :: undef :: undef :: undef :: undef :: undef :: undef :: undef :: undef :: undef :: undef :: undef :: undef :: undef :: undef :: undef :: undef :: undef :: undef :: undef :: undef :: undef :: undef :: undef :: undef :: undef :: undef :: undef :: undef :: undef :: undef :: undef :: undef :: undef :: undef :: undef :: undef :: undef :: undef :: undef :: undef :: undef :: undef :: undef :: undef :: undef :: undef :: undef :: undef :: undef :: undef :: undef :: undef :: undef :: undef :: undef :: undef :: undef :: undef :: undef :: undef :: undef :: undef :: undef :: undef :: undef :: undef :: undef :: undef :: undef :: undef :: undef :: undef :: undef :: undef :: undef :: undef :: undef :: undef :: undef :: undef :: undef :: undef :: undef :: undef :: undef :: undef :: undef :: undef :: undef :: undef :: undef :: undef :: undef :: undef :: undef :: undef :: undef :: undef :: undef :: undef :: undef :: undef :: undef :: undef :: undef :: undef :: undef :: undef :: undef :: undef :: undef :: undef :: undef :: undef :: undef :: undef :: undef :: undef :: undef :: undef :: undef :: undef :: undef :: undef :: undef :: undef :: undef :: undef :: undef :: undef :: undef :: undef :: undef :: undef :: undef :: undef :: undef :: undef :: undef :: undef :: undef :: undef :: undef :: undef :: undef :: undef :: undef :: undef :: undef :: undef :: undef :: undef :: undef :: undef :: []).toArray, []⟩
structure Hd (w w2 : World) (B r gb N : Nat) (o : List Hold) (heads : Bool) (depth kind : Int) : Prop where
 ap : Ap r gb w w2
 shm : ShM w2 B r gb o heads
 c0 : w2.cell? ⟨N, 0, none⟩ = some (.int .i64 depth)
 c1 : w2.cell? ⟨N, 1, none⟩ = some (.int .i64 kind)
 nr : N ≠ r
 ng : N ≠ gb
theorem stand_head {B r gb : Nat} {o : List Hold} {heads : Bool} (depth kind : Int) (name : ByteArray) (num op at_ : Int) (hs : name.size <= 140737488355328) (w : World) (h : ShM w B r gb o heads)
   (hk : fieldsB ⟨depth, kind, name, num, op, at_⟩ = true -> ∀ w2 N, Hd w w2 B r gb N o heads depth kind -> st3.wp Tryz.prog (Exit.then (stTail.wp Tryz.prog (bodyPost Tryz.prog Tryz.f51 (StandPost w B r gb o heads ⟨depth, kind, name, num, op, at_⟩))) (bodyPost Tryz.prog Tryz.f51 (StandPost w B r gb o heads ⟨depth, kind, name, num, op, at_⟩))) (F3 r N depth kind name num op at_) w2) :
   Calls Tryz.prog 51 #[.pointer (some ⟨r, 0, none⟩), .agg #[.int .i64 depth, .int .i64 kind, .string name, .int .i64 num, .int .i64 op, .int .i64 at_]] w (StandPost w B r gb o heads ⟨depth, kind, name, num, op, at_⟩) := by
 have HM := Lib.hid h
 have hf := fields_any ⟨depth, kind, name, num, op, at_⟩ hs
 simp only [Nd.cells] at hf
 have hlt := h.s.lt
 have hgt : gb < w.heap.size := by obtain ⟨F, h1, _⟩ := h.row; exact h1.lt
 cases hfb : fieldsB ⟨depth, kind, name, num, op, at_⟩ with
 | false =>
   have hst : standF o heads ⟨depth, kind, name, num, op, at_⟩ = none := by simp [standF, hfb]
   rw [hfb] at hf
   clear hfb h hk hlt hgt
   go_enter Tryz.func51, Tryz.ntmps51
   go_wp2_with (go_at_call 95; refine (hf _).mono ?_; rintro e w1 ⟨rfl, k1⟩)
   go_ret
   exact ⟨(Ap.of_kin ((Kin.refl w).alloc _)).trans (Ap.of_kin k1), by rw [hst]; rfl⟩
 | true =>
   rw [hfb] at hf
   have HK := Lib.hid (hk hfb)
   clear hfb h hk
   go_enter Tryz.func51, Tryz.ntmps51
   generalize hQ : bodyPost Tryz.prog Tryz.f51 (StandPost w B r gb o heads ⟨depth, kind, name, num, op, at_⟩) = Q at HK ⊢
   have HQ := Lib.hid hQ
   clear hQ
   change Code.wp Tryz.prog st0 Q _ _
   rw [st0_is]
   refine wp_seq ?_
   generalize hY : Code.wp Tryz.prog ((seqL (seqR st0)).seq (st3.seq stTail)) Q = Y
   have HY := Lib.hid hY
   clear hY
   simp only [st0, seqL, Tryz.f51, Option.getD_some]
   go_wp2
   rw [<- HY.out]
   refine wp_seq ?_
   have hx : Code.wp Tryz.prog (st3.seq stTail) Q = Code.wp Tryz.prog (st3.seq stTail) Q := rfl
   generalize hZ : Code.wp Tryz.prog (st3.seq stTail) Q = Z
   have HZ := Lib.hid hZ
   clear hZ hx
   simp only [st0, seqL, seqR, Tryz.f51, Option.getD_some]
   have k0 := (Kin.refl w).alloc (Obj.cells #[Value.int IntKind.i64 depth, Value.int IntKind.i64 kind, Value.string name, Value.int IntKind.i64 num, Value.int IntKind.i64 op, Value.int IntKind.i64 at_] 50)
   have hS := six_new w 50 (.int .i64 depth) (.int .i64 kind) (.string name) (.int .i64 num) (.int .i64 op) (.int .i64 at_)
   go_wp2_with (go_at_call 95; refine (hf _).mono ?_; rintro e w1 ⟨rfl, k1⟩)
   rw [<- HZ.out]
   refine wp_seq ?_
   have k2 := k0.trans k1
   exact HK.out w1 w.heap.size ⟨Ap.of_kin k2, HM.out.kin k2, (k1.cell (by simp)).trans hS.c0, (k1.cell (by simp)).trans hS.c1, by omega, by omega⟩
theorem stand_wants {B r gb N : Nat} {o : List Hold} {heads : Bool} {st : List Opn} {begun : Bool} {depth kind : Int} {name : ByteArray} {num op at_ : Int} {w w2 : World} (hI : ShI o heads st begun) (ho : o.length <= 24) (hf : fieldsB ⟨depth, kind, name, num, op, at_⟩ = true) (hH : Hd w w2 B r gb N o heads depth kind) {u : Nat} (hwi : wantIx o = some u) : st3.wp Tryz.prog (Exit.then (stTail.wp Tryz.prog (bodyPost Tryz.prog Tryz.f51 (StandPost w B r gb o heads ⟨depth, kind, name, num, op, at_⟩))) (bodyPost Tryz.prog Tryz.f51 (StandPost w B r gb o heads ⟨depth, kind, name, num, op, at_⟩))) (F3 r N depth kind name num op at_) w2 := by
 have H := Lib.hid hH
 have HI := Lib.hid hI
 have HF := Lib.hid hf
 have cN0 := hH.c0
 have cN1 := hH.c1
 have hNr := hH.nr
 have hNg := hH.ng
 have hng := hH.shm.ne
 have hw52 := wanting_any w2 hH.shm
 clear hH hI hf
 unfold F3
 generalize hQ : bodyPost Tryz.prog Tryz.f51 (StandPost w B r gb o heads ⟨depth, kind, name, num, op, at_⟩) = Q
 have HQ := Lib.hid hQ
 clear hQ
 generalize hY : stTail.wp Tryz.prog Q = Y
 have HY := Lib.hid hY
 clear hY
 obtain ⟨⟨g, hg, hgw⟩, hlater⟩ := lastIx_some hwi
 clear hlater
 rw [hwi] at hw52
 have e1 : ixV (some u) = (u : Int) := rfl
 rw [e1] at hw52
 clear e1
 have c0 := H.out.shm.c0
 have hgd := HI.out.depth u g hg
 have hgs := HI.out.small u g hg
 have hul := (List.getElem?_eq_some_iff.1 hg).1
 have d1 := H.out.shm.depth hg
 have b1 := H.out.shm.blocks hg
 obtain ⟨v, v1, hva⟩ := H.out.shm.wants hg
 have f2 := H.out.shm.fr (u * 4 + 2)
 have f3 := H.out.shm.fr (u * 4 + 3)
 rw [hgd] at d1
 obtain ⟨x, rest, hxr⟩ : ∃ x rest, g.wants = x :: rest := by
   cases hgw2 : g.wants with
   | nil => rw [hgw2] at hgw; cases hgw
   | cons x rest => exact ⟨x, rest, rfl⟩
 rw [hxr] at hva
 obtain ⟨gw, off, cap, rfl, hcap, x1, hwt, hwt2⟩ := hva.tail
 have HWT := Lib.hid hwt
 have HWT2 := Lib.hid hwt2
 have hu0 : (0 : Int) <= u := by omega
 have hr1 : (0 : Int) < ((rest.length + 1 : Nat) : Int) := by omega
 have HTK : Hid (takeF o heads ⟨depth, kind, name, num, op, at_⟩ = if depth ≠ (u : Int) + 1 + 1 \/ (x = 0 /\ isExprB kind = false) \/ (x = 1 /\ kind ≠ 9) then none else some (o.set u { g with wants := rest, blocks := if x = 1 then g.blocks + 1 else g.blocks })) := by
   show _ = _
   unfold takeF
   simp only [hwi, hg, hxr, hgd]
 have HG := Lib.hid hg
 clear hva hwt hwt2 hgw hwi hxr hgd hg
 simp only [st3, st0, seqL, seqR, Tryz.f51, Option.getD_some]
 by_cases hd : depth = (u : Int) + 1 + 1
 · have hd1 : (depth == (u : Int) + 1 + 1) = true := by simp [hd]
   have hd2 : (depth != (u : Int) + 1 + 1) = false := by simp [hd]
   have hdd : ¬ depth ≠ (u : Int) + 1 + 1 := by simp [hd]
   clear hd
   by_cases hx0 : x = 0
   · subst hx0
     cases hke : isExprB kind with
     | false =>
       have hn : takeF o heads ⟨depth, kind, name, num, op, at_⟩ = none := by rw [HTK.out, if_pos (.inr (.inl ⟨rfl, hke⟩))]
       have HN := Lib.hid hn
       clear hn hdd
       go_wp2_with (go_at_call 52; refine hw52.mono ?_; rintro e w3 ⟨rfl, rfl⟩)
       go_quiet ((go_at_call 96; exact Calls.quiet_of_same (isExpr_any _ _)))
       go_wp2
       rw [<- HQ.out]
       exact ⟨rfl, _, res51 _ false rfl _, stand_refuse HN.out (H.out.ap.trans ((Ap.refl _).drewN _))⟩
     | true =>
       have hn : takeF o heads ⟨depth, kind, name, num, op, at_⟩ = some (o.set u { g with wants := rest }) := by
         rw [HTK.out, if_neg (by simp [hke]; omega)]; simp
       have HN := Lib.hid hn
       clear hn hdd
       go_wp2_with (go_at_call 52; refine hw52.mono ?_; rintro e w3 ⟨rfl, rfl⟩)
       go_quiet ((go_at_call 96; exact Calls.quiet_of_same (isExpr_any _ _)))
       go_wp2
       all_goals rw [<- HY.out, <- HQ.out]
       all_goals refine stand_tail ((H.out.shm.drewN nq).setWants (l := rest) HG.out (WantsAt.kept  ?_ fun _ _ _ _ => rfl)) (by simp [go_sem, cN0, hNg]) (by simp [go_sem, cN1, hNg]) H.out.nr H.out.ng (set_depth (g' := { g with wants := rest }) HI.out.depth HG.out rfl) ((by simp; omega)) HN.out HF.out (H.out.ap.trans (((Ap.refl _).drewN nq).set (a := ⟨gb, _, none⟩) (.inr rfl) _)) _ _ _ _ _ _ _ _ _ _ _ _ _ _ _ _ _ _ _ _ _ _ _ _ _ _ _ _ _ _ _ _ _ _ _ _ _ _ _ _ _ _ _ _ _ _ _ _ _ _ _ _ _ _ _ _ _ _ _ _ _ _ _ _ _ _ _ _ _ _ _ _ _ _ _ _ _ _ _ _ _ _ _ _ _ _ _ _ _ _ _ _ _ _ _ _ _ _ _ _ _ _ _ _ _ _ _ _ _ _ _ _ _ _ _ _ _ _ _ _ _ _ _ _ _ _ _ _ _ _ _ _ _ _ _ _ _ _ _ _ _ _ _ _ _ _ _ _ _ _ _ _ _ _ _ _ _ _ _ _ _ _ _ _ _ _ _ _ _ _ _ _ _ _ _ _ _ _ _ _ _ _ _ _ _ _ _ _ _ _ _ _ _ _ _ _ _ _ _ _ _ _ _ _ _ _ _ _ _ _ _ _ _ _ _ _ _ _ _ _
       all_goals first | exact HWT.out | exact HWT2.out (by omega)
   · have hx0b : (x == 0) = false := by simp [hx0]
     by_cases hx1 : x = 1
     · subst hx1
       by_cases hk9 : kind = 9
       · have hk1 : (kind == 9) = true := by simp [hk9]
         have hk2 : (kind != 9) = false := by simp [hk9]
         have hn : takeF o heads ⟨depth, kind, name, num, op, at_⟩ = some ((o.set u { g with wants := rest }).set u { { g with wants := rest } with blocks := g.blocks + 1 }) := by
           rw [HTK.out, if_neg (by simp [hk9]; omega)]; simp
         have HN := Lib.hid hn
         clear hn hdd hx0 hk9
         go_wp2_with (go_at_call 52; refine hw52.mono ?_; rintro e w3 ⟨rfl, rfl⟩)
         go_quiet ((go_at_call 96; exact Calls.quiet_of_same (isExpr_any _ _)))
         go_wp2
         all_goals rw [<- HY.out, <- HQ.out]
         all_goals refine stand_tail (((H.out.shm.drewN nq).setWants (l := rest) HG.out (WantsAt.kept ?_ fun _ _ _ _ => rfl)).setBlocks (g := { g with wants := rest }) (List.getElem?_set_self hul) (g.blocks + 1)) (by simp [go_sem, cN0, hNg]) (by simp [go_sem, cN1, hNg]) H.out.nr H.out.ng (set_depth (u := u) (g := { g with wants := rest }) (set_depth (g' := { g with wants := rest }) HI.out.depth HG.out rfl) (List.getElem?_set_self hul) rfl) ((by simp; omega)) HN.out HF.out (H.out.ap.trans ((((Ap.refl _).drewN nq).set (a := ⟨gb, u * 4 + 2, none⟩) (.inr rfl) _).set (a := ⟨gb, u * 4 + 3, none⟩) (.inr rfl) _)) _ _ _ _ _ _ _ _ _ _ _ _ _ _ _ _ _ _ _ _ _ _ _ _ _ _ _ _ _ _ _ _ _ _ _ _ _ _ _ _ _ _ _ _ _ _ _ _ _ _ _ _ _ _ _ _ _ _ _ _ _ _ _ _ _ _ _ _ _ _ _ _ _ _ _ _ _ _ _ _ _ _ _ _ _ _ _ _ _ _ _ _ _ _ _ _ _ _ _ _ _ _ _ _ _ _ _ _ _ _ _ _ _ _ _ _ _ _ _ _ _ _ _ _ _ _ _ _ _ _ _ _ _ _ _ _ _ _ _ _ _ _ _ _ _ _ _ _ _ _ _ _ _ _ _ _ _ _ _ _ _ _ _ _ _ _ _ _ _ _ _ _ _ _ _ _ _ _ _ _ _ _ _ _ _ _ _ _ _ _ _ _ _ _ _ _ _ _ _ _ _ _ _ _ _ _ _ _ _ _ _ _ _ _ _ _ _ _ _ _
         all_goals first | exact HWT.out | exact HWT2.out (by omega)
       · have hk1 : (kind == 9) = false := by simp [hk9]
         have hk2 : (kind != 9) = true := by simp [hk9]
         have hn : takeF o heads ⟨depth, kind, name, num, op, at_⟩ = none := by rw [HTK.out, if_pos (.inr (.inr ⟨rfl, hk9⟩))]
         have HN := Lib.hid hn
         clear hn hdd hx0 hk9
         go_wp2_with (go_at_call 52; refine hw52.mono ?_; rintro e w3 ⟨rfl, rfl⟩)
         go_quiet ((go_at_call 96; exact Calls.quiet_of_same (isExpr_any _ _)))
         go_wp2
         rw [<- HQ.out]
         exact ⟨rfl, _, res51 _ false rfl _, stand_refuse HN.out (H.out.ap.trans ((Ap.refl _).drewN _))⟩
     · have hx1b : (x == 1) = false := by simp [hx1]
       have hn : takeF o heads ⟨depth, kind, name, num, op, at_⟩ = some (o.set u { g with wants := rest }) := by
         rw [HTK.out, if_neg (by simp [hx0, hx1]; omega)]; simp [hx1]
       have HN := Lib.hid hn
       clear hn hdd hx0 hx1
       go_wp2_with (go_at_call 52; refine hw52.mono ?_; rintro e w3 ⟨rfl, rfl⟩)
       go_quiet ((go_at_call 96; exact Calls.quiet_of_same (isExpr_any _ _)))
       go_wp2
       all_goals rw [<- HY.out, <- HQ.out]
       all_goals refine stand_tail ((H.out.shm.drewN nq).setWants (l := rest) HG.out (WantsAt.kept  ?_ fun _ _ _ _ => rfl)) (by simp [go_sem, cN0, hNg]) (by simp [go_sem, cN1, hNg]) H.out.nr H.out.ng (set_depth (g' := { g with wants := rest }) HI.out.depth HG.out rfl) ((by simp; omega)) HN.out HF.out (H.out.ap.trans (((Ap.refl _).drewN nq).set (a := ⟨gb, _, none⟩) (.inr rfl) _)) _ _ _ _ _ _ _ _ _ _ _ _ _ _ _ _ _ _ _ _ _ _ _ _ _ _ _ _ _ _ _ _ _ _ _ _ _ _ _ _ _ _ _ _ _ _ _ _ _ _ _ _ _ _ _ _ _ _ _ _ _ _ _ _ _ _ _ _ _ _ _ _ _ _ _ _ _ _ _ _ _ _ _ _ _ _ _ _ _ _ _ _ _ _ _ _ _ _ _ _ _ _ _ _ _ _ _ _ _ _ _ _ _ _ _ _ _ _ _ _ _ _ _ _ _ _ _ _ _ _ _ _ _ _ _ _ _ _ _ _ _ _ _ _ _ _ _ _ _ _ _ _ _ _ _ _ _ _ _ _ _ _ _ _ _ _ _ _ _ _ _ _ _ _ _ _ _ _ _ _ _ _ _ _ _ _ _ _ _ _ _ _ _ _ _ _ _ _ _ _ _ _ _ _ _ _ _ _ _ _ _ _ _ _ _ _ _ _ _ _
       all_goals first | exact HWT.out | exact HWT2.out (by omega)
 · have hd1 : (depth == (u : Int) + 1 + 1) = false := by simp [hd]
   have hd2 : (depth != (u : Int) + 1 + 1) = true := by simp [hd]
   have hn : takeF o heads ⟨depth, kind, name, num, op, at_⟩ = none := by rw [HTK.out, if_pos (.inl hd)]
   have HN := Lib.hid hn
   clear hd hn
   go_wp2_with (go_at_call 52; refine hw52.mono ?_; rintro e w3 ⟨rfl, rfl⟩)
   go_quiet ((go_at_call 96; exact Calls.quiet_of_same (isExpr_any _ _)))
   go_wp2
   rw [<- HQ.out]
   exact ⟨rfl, _, res51 _ false rfl _, stand_refuse HN.out (H.out.ap.trans ((Ap.refl _).drewN _))⟩
end Go.Proofs.YtonmcakdofbjiaaGreatDoor
namespace Go.Proofs.YtonmcakdofbjiaaGreatDoor
open Go.RowKit
def takeN (o : List Hold) (heads : Bool) (n : Nd) (hx : Option Nat) : Option (List Hold) :=
 if n.kind = 0 \/ n.kind = 1 then (if n.depth ≠ 1 \/ heads = false then none else some o)
 else if isStmtB n.kind then
   if n.depth = 1 then some o
   else match hx with
     | some u => match o[u]? with
       | some h => if h.kind = 9 then some o else none
       | none => none
     | none => none
 else if n.kind = 9 then
   match hx with
   | some u => match o[u]? with
     | some h => if h.kind = 7 /\ h.blocks = 1 then some (o.set u { h with blocks := h.blocks + 1 }) else none
     | none => none
   | none => none
 else none
theorem takeF_none {o : List Hold} (h : wantIx o = none) (heads : Bool) (n : Nd) : takeF o heads n = takeN o heads n (heldIx o (IntKind.wrap .i64 (n.depth - 1))) := by
 unfold takeF takeN
 simp only [h]
 first | done | rfl
theorem stand_none {B r gb N : Nat} {o : List Hold} {heads : Bool} {st : List Opn} {begun : Bool} {depth kind : Int} {name : ByteArray} {num op at_ : Int} {w w2 : World} (hI : ShI o heads st begun) (ho : o.length <= 24) (hf : fieldsB ⟨depth, kind, name, num, op, at_⟩ = true) (hH : Hd w w2 B r gb N o heads depth kind) (hwi : wantIx o = none) : st3.wp Tryz.prog (Exit.then (stTail.wp Tryz.prog (bodyPost Tryz.prog Tryz.f51 (StandPost w B r gb o heads ⟨depth, kind, name, num, op, at_⟩))) (bodyPost Tryz.prog Tryz.f51 (StandPost w B r gb o heads ⟨depth, kind, name, num, op, at_⟩))) (F3 r N depth kind name num op at_) w2 := by
 have H := Lib.hid hH
 have HI := Lib.hid hI
 have HF := Lib.hid hf
 have cN0 := hH.c0
 have cN1 := hH.c1
 have hNr := hH.nr
 have hNg := hH.ng
 have hng := hH.shm.ne
 have hw52 := wanting_any w2 hH.shm
 clear hH hI hf
 unfold F3
 generalize hQ : bodyPost Tryz.prog Tryz.f51 (StandPost w B r gb o heads ⟨depth, kind, name, num, op, at_⟩) = Q
 have HQ := Lib.hid hQ
 clear hQ
 generalize hY : stTail.wp Tryz.prog Q = Y
 have HY := Lib.hid hY
 clear hY
 simp only [st3, st0, seqL, seqR, Tryz.f51, Option.getD_some]
 have e0 : ixV none = -1 := rfl
 rw [hwi, e0] at hw52
 clear e0
 have c0 := H.out.shm.c0
 have c1 := H.out.shm.c1
 have hH : ∀ w', ShM w' B r gb o heads -> Calls Tryz.prog 97 #[.pointer (some ⟨r, 0, none⟩), .int .i64 (wrap64 (depth - 1))] w' fun e w'' => e = .returned (.int .i64 (ixV (heldIx o (wrap64 (depth - 1))))) /\ w'' = w' := fun w' h => held_any _ w' h
 have HT : Hid (takeF o heads ⟨depth, kind, name, num, op, at_⟩ = takeN o heads ⟨depth, kind, name, num, op, at_⟩ (heldIx o (wrap64 (depth - 1)))) := by
   have h := takeF_none hwi heads ⟨depth, kind, name, num, op, at_⟩
   rw [Go.IntWalk.i64_left] at h
   exact h
 have hHX : ∀ u, heldIx o (wrap64 (depth - 1)) = some u -> u < o.length := fun u hu => lastIx_lt hu
 generalize heldIx o (wrap64 (depth - 1)) = hx at hH HT hHX
 clear hwi
 by_cases k01 : kind = 0 \/ kind = 1
 · by_cases hd : depth = 1
   · have hd1 : (depth == 1) = true := by simp [hd]
     have hd2 : (depth != 1) = false := by simp [hd]
     cases heads with
     | true =>
       have hn : takeF o true ⟨depth, kind, name, num, op, at_⟩ = some o := by rw [HT.out]; unfold takeN; rw [if_pos k01, if_neg (by simp [hd])]
       have HN := Lib.hid hn
       clear hn HT hd
       rcases k01 with rfl | rfl
       · go_wp2_with (first | (go_at_call 52; refine hw52.mono ?_; rintro e w3 ⟨rfl, rfl⟩) | (go_at_call 97; refine (hH _ H.out.shm).mono ?_; rintro e w3 ⟨rfl, rfl⟩) | (go_at_call 98; refine (isStmt_any _ _).mono ?_; rintro e w3 ⟨rfl, rfl⟩))
         rw [<- HY.out, <- HQ.out]; exact stand_tail (H.out.shm) cN0 cN1 H.out.nr H.out.ng (HI.out.depth) (ho) HN.out HF.out (H.out.ap) _ _ _ _ _ _ _ _ _ _ _ _ _ _ _ _ _ _ _ _ _ _ _ _ _ _ _ _ _ _ _ _ _ _ _ _ _ _ _ _ _ _ _ _ _ _ _ _ _ _ _ _ _ _ _ _ _ _ _ _ _ _ _ _ _ _ _ _ _ _ _ _ _ _ _ _ _ _ _ _ _ _ _ _ _ _ _ _ _ _ _ _ _ _ _ _ _ _ _ _ _ _ _ _ _ _ _ _ _ _ _ _ _ _ _ _ _ _ _ _ _ _ _ _ _ _ _ _ _ _ _ _ _ _ _ _ _ _ _ _ _ _ _ _ _ _ _ _ _ _ _ _ _ _ _ _ _ _ _ _ _ _ _ _ _ _ _ _ _ _ _ _ _ _ _ _ _ _ _ _ _ _ _ _ _ _ _ _ _ _ _ _ _ _ _ _ _ _ _ _ _ _ _ _ _ _ _ _ _ _ _ _ _ _ _ _ _ _ _ _
       · go_wp2_with (first | (go_at_call 52; refine hw52.mono ?_; rintro e w3 ⟨rfl, rfl⟩) | (go_at_call 97; refine (hH _ H.out.shm).mono ?_; rintro e w3 ⟨rfl, rfl⟩) | (go_at_call 98; refine (isStmt_any _ _).mono ?_; rintro e w3 ⟨rfl, rfl⟩))
         rw [<- HY.out, <- HQ.out]; exact stand_tail (H.out.shm) cN0 cN1 H.out.nr H.out.ng (HI.out.depth) (ho) HN.out HF.out (H.out.ap) _ _ _ _ _ _ _ _ _ _ _ _ _ _ _ _ _ _ _ _ _ _ _ _ _ _ _ _ _ _ _ _ _ _ _ _ _ _ _ _ _ _ _ _ _ _ _ _ _ _ _ _ _ _ _ _ _ _ _ _ _ _ _ _ _ _ _ _ _ _ _ _ _ _ _ _ _ _ _ _ _ _ _ _ _ _ _ _ _ _ _ _ _ _ _ _ _ _ _ _ _ _ _ _ _ _ _ _ _ _ _ _ _ _ _ _ _ _ _ _ _ _ _ _ _ _ _ _ _ _ _ _ _ _ _ _ _ _ _ _ _ _ _ _ _ _ _ _ _ _ _ _ _ _ _ _ _ _ _ _ _ _ _ _ _ _ _ _ _ _ _ _ _ _ _ _ _ _ _ _ _ _ _ _ _ _ _ _ _ _ _ _ _ _ _ _ _ _ _ _ _ _ _ _ _ _ _ _ _ _ _ _ _ _ _ _ _ _ _ _
     | false =>
       have hn : takeF o false ⟨depth, kind, name, num, op, at_⟩ = none := by rw [HT.out]; unfold takeN; rw [if_pos k01, if_pos (by simp)]
       have HN := Lib.hid hn
       clear hn HT hd
       rcases k01 with rfl | rfl
       · go_wp2_with (first | (go_at_call 52; refine hw52.mono ?_; rintro e w3 ⟨rfl, rfl⟩) | (go_at_call 97; refine (hH _ H.out.shm).mono ?_; rintro e w3 ⟨rfl, rfl⟩) | (go_at_call 98; refine (isStmt_any _ _).mono ?_; rintro e w3 ⟨rfl, rfl⟩))
         rw [<- HQ.out]; exact ⟨rfl, _, res51 _ false rfl _, stand_refuse HN.out H.out.ap⟩
       · go_wp2_with (first | (go_at_call 52; refine hw52.mono ?_; rintro e w3 ⟨rfl, rfl⟩) | (go_at_call 97; refine (hH _ H.out.shm).mono ?_; rintro e w3 ⟨rfl, rfl⟩) | (go_at_call 98; refine (isStmt_any _ _).mono ?_; rintro e w3 ⟨rfl, rfl⟩))
         rw [<- HQ.out]; exact ⟨rfl, _, res51 _ false rfl _, stand_refuse HN.out H.out.ap⟩
   · have hn : takeF o heads ⟨depth, kind, name, num, op, at_⟩ = none := by rw [HT.out]; unfold takeN; rw [if_pos k01, if_pos (.inl hd)]
     have HN := Lib.hid hn
     have hd1 : (depth == 1) = false := by simp [hd]
     have hd2 : (depth != 1) = true := by simp [hd]
     clear hn HT hd
     rcases k01 with rfl | rfl
     · go_wp2_with (first | (go_at_call 52; refine hw52.mono ?_; rintro e w3 ⟨rfl, rfl⟩) | (go_at_call 97; refine (hH _ H.out.shm).mono ?_; rintro e w3 ⟨rfl, rfl⟩) | (go_at_call 98; refine (isStmt_any _ _).mono ?_; rintro e w3 ⟨rfl, rfl⟩))
       rw [<- HQ.out]; exact ⟨rfl, _, res51 _ false rfl _, stand_refuse HN.out H.out.ap⟩
     · go_wp2_with (first | (go_at_call 52; refine hw52.mono ?_; rintro e w3 ⟨rfl, rfl⟩) | (go_at_call 97; refine (hH _ H.out.shm).mono ?_; rintro e w3 ⟨rfl, rfl⟩) | (go_at_call 98; refine (isStmt_any _ _).mono ?_; rintro e w3 ⟨rfl, rfl⟩))
       rw [<- HQ.out]; exact ⟨rfl, _, res51 _ false rfl _, stand_refuse HN.out H.out.ap⟩
 · have k0 : (kind == 0) = false := by simp; omega
   have k1 : (kind == 1) = false := by simp; omega
   cases hsb : isStmtB kind with
   | true =>
     have hs2 : 2 <= kind /\ kind <= 8 := by unfold isStmtB at hsb; simpa using hsb
     have e0 : ∀ hx', takeN o heads ⟨depth, kind, name, num, op, at_⟩ hx' = (if depth = 1 then some o else match hx' with
         | some u => match o[u]? with
           | some h => if h.kind = 9 then some o else none
           | none => none
         | none => none) := fun hx' => by unfold takeN; rw [if_neg k01, if_pos hsb]
     by_cases hd : depth = 1
     · have hd1 : (depth == 1) = true := by simp [hd]
       have hd2 : (depth != 1) = false := by simp [hd]
       have hn : takeF o heads ⟨depth, kind, name, num, op, at_⟩ = some o := by rw [HT.out, e0, if_pos hd]
       have HN := Lib.hid hn
       clear hn HT e0 k01 hs2 hHX hd
       go_wp2_with (first | (go_at_call 52; refine hw52.mono ?_; rintro e w3 ⟨rfl, rfl⟩) | (go_at_call 97; refine (hH _ H.out.shm).mono ?_; rintro e w3 ⟨rfl, rfl⟩) | (go_at_call 98; refine (isStmt_any _ _).mono ?_; rintro e w3 ⟨rfl, rfl⟩))
       rw [<- HY.out, <- HQ.out]; exact stand_tail (H.out.shm) cN0 cN1 H.out.nr H.out.ng (HI.out.depth) (ho) HN.out HF.out (H.out.ap) _ _ _ _ _ _ _ _ _ _ _ _ _ _ _ _ _ _ _ _ _ _ _ _ _ _ _ _ _ _ _ _ _ _ _ _ _ _ _ _ _ _ _ _ _ _ _ _ _ _ _ _ _ _ _ _ _ _ _ _ _ _ _ _ _ _ _ _ _ _ _ _ _ _ _ _ _ _ _ _ _ _ _ _ _ _ _ _ _ _ _ _ _ _ _ _ _ _ _ _ _ _ _ _ _ _ _ _ _ _ _ _ _ _ _ _ _ _ _ _ _ _ _ _ _ _ _ _ _ _ _ _ _ _ _ _ _ _ _ _ _ _ _ _ _ _ _ _ _ _ _ _ _ _ _ _ _ _ _ _ _ _ _ _ _ _ _ _ _ _ _ _ _ _ _ _ _ _ _ _ _ _ _ _ _ _ _ _ _ _ _ _ _ _ _ _ _ _ _ _ _ _ _ _ _ _ _ _ _ _ _ _ _ _ _ _ _ _ _ _
     · have hd1 : (depth == 1) = false := by simp [hd]
       have hd2 : (depth != 1) = true := by simp [hd]
       cases hx with
       | none =>
         have hn : takeF o heads ⟨depth, kind, name, num, op, at_⟩ = none := by rw [HT.out, e0, if_neg hd]
         have HN := Lib.hid hn
         have e1 : ixV none = -1 := rfl
         rw [e1] at hH
         clear hn HT e0 k01 hs2 hHX hd
         go_wp2_with (first | (go_at_call 52; refine hw52.mono ?_; rintro e w3 ⟨rfl, rfl⟩) | (go_at_call 97; refine (hH _ H.out.shm).mono ?_; rintro e w3 ⟨rfl, rfl⟩) | (go_at_call 98; refine (isStmt_any _ _).mono ?_; rintro e w3 ⟨rfl, rfl⟩))
         rw [<- HQ.out]; exact ⟨rfl, _, res51 _ false rfl _, stand_refuse HN.out H.out.ap⟩
       | some u =>
         have e1 : ixV (some u) = (u : Int) := rfl
         rw [e1] at hH
         have hul := hHX u rfl
         obtain ⟨g, hg⟩ : ∃ g, o[u]? = some g := ⟨_, List.getElem?_eq_getElem hul⟩
         have q1 := H.out.shm.kind hg
         have hu0 : (0 : Int) <= u := by omega
         have hu1 : ((u : Int) < 0) = False := by apply eq_false; omega
         by_cases hk9 : g.kind = 9
         · have hn : takeF o heads ⟨depth, kind, name, num, op, at_⟩ = some o := by rw [HT.out, e0, if_neg hd]; simp only [hg, hk9, if_true]
           have HN := Lib.hid hn
           have hg1 : (g.kind == 9) = true := by simp [hk9]
           have hg2 : (g.kind != 9) = false := by simp [hk9]
           clear hn HT e0 k01 hs2 hHX hd e1 hg hk9
           go_wp2_with (first | (go_at_call 52; refine hw52.mono ?_; rintro e w3 ⟨rfl, rfl⟩) | (go_at_call 97; refine (hH _ H.out.shm).mono ?_; rintro e w3 ⟨rfl, rfl⟩) | (go_at_call 98; refine (isStmt_any _ _).mono ?_; rintro e w3 ⟨rfl, rfl⟩))
           rw [<- HY.out, <- HQ.out]; exact stand_tail (H.out.shm) cN0 cN1 H.out.nr H.out.ng (HI.out.depth) (ho) HN.out HF.out (H.out.ap) _ _ _ _ _ _ _ _ _ _ _ _ _ _ _ _ _ _ _ _ _ _ _ _ _ _ _ _ _ _ _ _ _ _ _ _ _ _ _ _ _ _ _ _ _ _ _ _ _ _ _ _ _ _ _ _ _ _ _ _ _ _ _ _ _ _ _ _ _ _ _ _ _ _ _ _ _ _ _ _ _ _ _ _ _ _ _ _ _ _ _ _ _ _ _ _ _ _ _ _ _ _ _ _ _ _ _ _ _ _ _ _ _ _ _ _ _ _ _ _ _ _ _ _ _ _ _ _ _ _ _ _ _ _ _ _ _ _ _ _ _ _ _ _ _ _ _ _ _ _ _ _ _ _ _ _ _ _ _ _ _ _ _ _ _ _ _ _ _ _ _ _ _ _ _ _ _ _ _ _ _ _ _ _ _ _ _ _ _ _ _ _ _ _ _ _ _ _ _ _ _ _ _ _ _ _ _ _ _ _ _ _ _ _ _ _ _ _ _ _
         · have hn : takeF o heads ⟨depth, kind, name, num, op, at_⟩ = none := by rw [HT.out, e0, if_neg hd]; simp only [hg, hk9, if_false]
           have HN := Lib.hid hn
           have hg1 : (g.kind == 9) = false := by simp [hk9]
           have hg2 : (g.kind != 9) = true := by simp [hk9]
           clear hn HT e0 k01 hs2 hHX hd e1 hg hk9
           go_wp2_with (first | (go_at_call 52; refine hw52.mono ?_; rintro e w3 ⟨rfl, rfl⟩) | (go_at_call 97; refine (hH _ H.out.shm).mono ?_; rintro e w3 ⟨rfl, rfl⟩) | (go_at_call 98; refine (isStmt_any _ _).mono ?_; rintro e w3 ⟨rfl, rfl⟩))
           rw [<- HQ.out]; exact ⟨rfl, _, res51 _ false rfl _, stand_refuse HN.out H.out.ap⟩
   | false =>
     by_cases hk9 : kind = 9
     · subst hk9
       have e0 : ∀ hx', takeN o heads ⟨depth, 9, name, num, op, at_⟩ hx' = (match hx' with
         | some u => match o[u]? with
           | some h => if h.kind = 7 /\ h.blocks = 1 then some (o.set u { h with blocks := h.blocks + 1 }) else none
           | none => none
         | none => none) := fun hx' => by unfold takeN; rw [if_neg k01, if_neg (by simp [hsb]), if_pos rfl]
       cases hx with
       | none =>
         have hn : takeF o heads ⟨depth, 9, name, num, op, at_⟩ = none := by rw [HT.out, e0]
         have HN := Lib.hid hn
         have e1 : ixV none = -1 := rfl
         rw [e1] at hH
         clear hn HT e0 k01 hHX
         go_wp2_with (first | (go_at_call 52; refine hw52.mono ?_; rintro e w3 ⟨rfl, rfl⟩) | (go_at_call 97; refine (hH _ H.out.shm).mono ?_; rintro e w3 ⟨rfl, rfl⟩) | (go_at_call 98; refine (isStmt_any _ _).mono ?_; rintro e w3 ⟨rfl, rfl⟩))
         rw [<- HQ.out]; exact ⟨rfl, _, res51 _ false rfl _, stand_refuse HN.out H.out.ap⟩
       | some u =>
         have e1 : ixV (some u) = (u : Int) := rfl
         rw [e1] at hH
         have hul := hHX u rfl
         obtain ⟨g, hg⟩ : ∃ g, o[u]? = some g := ⟨_, List.getElem?_eq_getElem hul⟩
         have q1 := H.out.shm.kind hg
         have q3 := H.out.shm.blocks hg
         have hgs := HI.out.small u g hg
         have f3 := H.out.shm.fr (u * 4 + 3)
         have hu0 : (0 : Int) <= u := by omega
         have hu1 : ((u : Int) < 0) = False := by apply eq_false; omega
         have HG := Lib.hid hg
         by_cases hk7 : g.kind = 7
         · have hg1 : (g.kind == 7) = true := by simp [hk7]
           have hg2 : (g.kind != 7) = false := by simp [hk7]
           by_cases hb1 : g.blocks = 1
           · have hn : takeF o heads ⟨depth, 9, name, num, op, at_⟩ = some (o.set u { g with blocks := g.blocks + 1 }) := by rw [HT.out, e0]; simp only [hg, hk7, hb1, and_self, if_true]
             have HN := Lib.hid hn
             have hg3 : (g.blocks == 1) = true := by simp [hb1]
             have hg4 : (g.blocks != 1) = false := by simp [hb1]
             clear hn HT e0 k01 hHX e1 hg hk7 hb1
             go_wp2_with (first | (go_at_call 52; refine hw52.mono ?_; rintro e w3 ⟨rfl, rfl⟩) | (go_at_call 97; refine (hH _ H.out.shm).mono ?_; rintro e w3 ⟨rfl, rfl⟩) | (go_at_call 98; refine (isStmt_any _ _).mono ?_; rintro e w3 ⟨rfl, rfl⟩))
             rw [<- HY.out, <- HQ.out]; exact stand_tail (H.out.shm.setBlocks HG.out (g.blocks + 1)) (by simp [go_sem, cN0, hNg]) (by simp [go_sem, cN1, hNg]) H.out.nr H.out.ng (set_depth (g' := { g with blocks := g.blocks + 1 }) HI.out.depth HG.out rfl) ((by simp; omega)) HN.out HF.out (H.out.ap.trans ((Ap.refl _).set (a := ⟨gb, _, none⟩) (.inr rfl) _)) _ _ _ _ _ _ _ _ _ _ _ _ _ _ _ _ _ _ _ _ _ _ _ _ _ _ _ _ _ _ _ _ _ _ _ _ _ _ _ _ _ _ _ _ _ _ _ _ _ _ _ _ _ _ _ _ _ _ _ _ _ _ _ _ _ _ _ _ _ _ _ _ _ _ _ _ _ _ _ _ _ _ _ _ _ _ _ _ _ _ _ _ _ _ _ _ _ _ _ _ _ _ _ _ _ _ _ _ _ _ _ _ _ _ _ _ _ _ _ _ _ _ _ _ _ _ _ _ _ _ _ _ _ _ _ _ _ _ _ _ _ _ _ _ _ _ _ _ _ _ _ _ _ _ _ _ _ _ _ _ _ _ _ _ _ _ _ _ _ _ _ _ _ _ _ _ _ _ _ _ _ _ _ _ _ _ _ _ _ _ _ _ _ _ _ _ _ _ _ _ _ _ _ _ _ _ _ _ _ _ _ _ _ _ _ _ _ _ _ _
           · have hn : takeF o heads ⟨depth, 9, name, num, op, at_⟩ = none := by rw [HT.out, e0]; simp only [hg, hb1, and_false, if_false]
             have HN := Lib.hid hn
             have hg3 : (g.blocks == 1) = false := by simp [hb1]
             have hg4 : (g.blocks != 1) = true := by simp [hb1]
             clear hn HT e0 k01 hHX e1 hg hk7 hb1
             go_wp2_with (first | (go_at_call 52; refine hw52.mono ?_; rintro e w3 ⟨rfl, rfl⟩) | (go_at_call 97; refine (hH _ H.out.shm).mono ?_; rintro e w3 ⟨rfl, rfl⟩) | (go_at_call 98; refine (isStmt_any _ _).mono ?_; rintro e w3 ⟨rfl, rfl⟩))
             rw [<- HQ.out]; exact ⟨rfl, _, res51 _ false rfl _, stand_refuse HN.out H.out.ap⟩
         · have hn : takeF o heads ⟨depth, 9, name, num, op, at_⟩ = none := by rw [HT.out, e0]; simp only [hg, hk7, false_and, if_false]
           have HN := Lib.hid hn
           have hg1 : (g.kind == 7) = false := by simp [hk7]
           have hg2 : (g.kind != 7) = true := by simp [hk7]
           clear hn HT e0 k01 hHX e1 hg hk7
           go_wp2_with (first | (go_at_call 52; refine hw52.mono ?_; rintro e w3 ⟨rfl, rfl⟩) | (go_at_call 97; refine (hH _ H.out.shm).mono ?_; rintro e w3 ⟨rfl, rfl⟩) | (go_at_call 98; refine (isStmt_any _ _).mono ?_; rintro e w3 ⟨rfl, rfl⟩))
           rw [<- HQ.out]; exact ⟨rfl, _, res51 _ false rfl _, stand_refuse HN.out H.out.ap⟩
     · have hn : takeF o heads ⟨depth, kind, name, num, op, at_⟩ = none := by rw [HT.out]; unfold takeN; rw [if_neg k01, if_neg (by simp [hsb]), if_neg hk9]
       have HN := Lib.hid hn
       have hg1 : (kind == 9) = false := by simp [hk9]
       have hg2 : (kind != 9) = true := by simp [hk9]
       clear hn HT k01 hHX hk9
       go_wp2_with (first | (go_at_call 52; refine hw52.mono ?_; rintro e w3 ⟨rfl, rfl⟩) | (go_at_call 97; refine (hH _ H.out.shm).mono ?_; rintro e w3 ⟨rfl, rfl⟩) | (go_at_call 98; refine (isStmt_any _ _).mono ?_; rintro e w3 ⟨rfl, rfl⟩))
       rw [<- HQ.out]; exact ⟨rfl, _, res51 _ false rfl _, stand_refuse HN.out H.out.ap⟩
theorem stands_any {B r gb : Nat} {o : List Hold} {heads : Bool} (n : Nd) (hs : n.name.size <= 140737488355328) (w : World) (h : ShM w B r gb o heads) {st : List Opn} {begun : Bool} (hI : ShI o heads st begun) (ho : o.length <= 24) :
   Calls Tryz.prog 51 #[.pointer (some ⟨r, 0, none⟩), .agg n.cells.toArray] w (StandPost w B r gb o heads n) := by
 obtain ⟨depth, kind, name, num, op, at_⟩ := n
 refine stand_head depth kind name num op at_ hs w h fun hf w2 N hH => ?_
 cases hwi : wantIx o with
 | some u => exact stand_wants hI ho hf hH hwi
 | none => exact stand_none hI ho hf hH hwi
end Go.Proofs.YtonmcakdofbjiaaGreatDoor
namespace Go.Proofs.YtonmcakdofbjiaaGreatDoor
open Go.RowKit
def NodesAt (w : World) (v : Value) (l : List Nd) : Prop :=
 ∃ b cap, v = .slice b l.length cap /\ l.length <= cap /\ (l ≠ [] -> ∃ g off, b = some ⟨g, off, none⟩ /\ ∀ (j : Nat) (n : Nd), l[j]? = some n -> ∀ (k : Nat) (c : Value), n.cells[k]? = some c -> w.cell? ⟨g, off + j * 6 + k, none⟩ = some c)
theorem NodesAt.kin {w w' : World} {v : Value} {l : List Nd} (h : NodesAt w v l) (k : Kin w w') : NodesAt w' v l := by
 obtain ⟨b, cap, h1, h2, h3⟩ := h
 refine ⟨b, cap, h1, h2, fun hl => ?_⟩
 obtain ⟨g, off, h4, h5⟩ := h3 hl
 refine ⟨g, off, h4, fun j n hj x c hc => ?_⟩
 have := h5 j n hj x c hc
 exact (k.cell (World.block_lt_of_cell? w ⟨g, _, none⟩ this)).trans this
theorem ShM.start {w : World} {c : Array Value} {B : Nat} (hc : c.size = 104) (hB : B <= w.heap.size) : ShM ((w.alloc (.cells c 157)).alloc (.cells #[.slice (some ⟨w.heap.size, 0, none⟩) 0 26, .bool true] 100)) B (w.heap.size + 1) w.heap.size [] true := by
 have h1 := (World.rowIs_alloc w c 157 (fun i => c[i]?.getD undef) fun i hi => by simp [hi]).alloc (.cells #[.slice (some ⟨w.heap.size, 0, none⟩) 0 26, .bool true] 100)
 have h2 := World.rowIs_alloc (w.alloc (.cells c 157)) #[.slice (some ⟨w.heap.size, 0, none⟩) 0 26, .bool true] 100 (shF w.heap.size 0 true) (fun i hi => by
   match i, hi with
   | 0, _ => rfl
   | 1, _ => rfl)
 rw [hc] at h1
 have hs : (w.alloc (.cells c 157)).heap.size = w.heap.size + 1 := by simp
 rw [hs] at h2
 exact ⟨h2, ⟨_, h1, fun j h hj => by simp at hj⟩, by simp, by omega, by omega, hB⟩
theorem four_cell (w : World) (a b c d e f : Value) : (w.alloc (.cells #[a, b, c, d, e, f] 50)).cell? ⟨w.heap.size, 0, none⟩ = some a := by
 simp [go_sem]
theorem make26 : ∃ c : Array Value, c.size = 104 /\ ∀ u : World, (Instr.makeSlice 98 (.int .i64 0) (.int .i64 26)).run Tryz.prog u = .ok (.slice (some ⟨u.heap.size, 0, none⟩) 0 26) (u.alloc (.cells c 157)) := by
 obtain ⟨ti, hi, hz0, hz1, hz2⟩ := info_parts info157
 have h := fun u : World => run_make (P := Tryz.prog) u 98 157 ti _ Tryz.underlying98 hi hz0 .i64 .i64 0 26 (by omega) (by omega) (by rw [hz2]; decide) (by omega)
 refine ⟨_, ?_, h⟩
 rw [size_madeCells]
 show 26 * ti.size = 104
 rw [hz1]
theorem shape_any (l : List Nd) (hl : ∀ n ∈ l, n.name.size <= 140737488355328 /\ -9223372036854775808 <= n.depth /\ n.depth <= 9223372036854775807) (hlen : l.length <= 9223372036854775807) (v : Value) (w : World) (h : NodesAt w v l) :
   Calls Tryz.prog 18 #[v] w fun e w' => e = .returned (.tuple #[.int .i64 (shapeF l).1, .int .i64 (shapeF l).2]) /\ Kin w w' := by
 have HL := Lib.hid hl
 have HN := Lib.hid h
 clear hl
 obtain ⟨b, cap, rfl, hcap, hne⟩ := h
 have HNE := Lib.hid hne
 clear hne
 by_cases hm : 300 < l.length
 · have hs : shapeF l = (32, 300) := by unfold shapeF; rw [if_pos hm]
   have hd : decide ((300 : Int) < (l.length : Int)) = true := by simp; omega
   rw [hs]
   clear hs hm
   go_enter Tryz.func18, Tryz.ntmps18
   go_wp2
   go_ret2
   exact ⟨rfl, Kin.refl _⟩
 · have hs : shapeF l = shapeG [] true 0 l := by unfold shapeF; rw [if_neg hm]
   have hd : decide ((300 : Int) < (l.length : Int)) = false := by simp; omega
   rw [hs]
   obtain ⟨c, hc, hmk⟩ := make26
   have HM := Lib.hid (ShM.start (w := w) hc (Nat.le_refl _))
   have HK := Lib.hid ((Kin.refl w).alloc (.cells c 157))
   generalize hR : shapeG [] true 0 l = R
   have HR := Lib.hid hR
   clear hs hR
   go_enter Tryz.func18, Tryz.ntmps18
   go_wp2_with fail
   have h0 : ShM ((w.alloc (.cells c 157)).alloc (.cells #[.slice (some ⟨w.heap.size, 0, none⟩) 0 26, .bool true] 100)) w.heap.size (w.heap.size + 1) w.heap.size [] true := HM.out
   have k0 : Kin w ((w.alloc (.cells c 157)).alloc (.cells #[.slice (some ⟨w.heap.size, 0, none⟩) 0 26, .bool true] 100)) := HK.out.alloc _
   have HM0 := Lib.hid h0
   have HK0 := Lib.hid k0
   clear h0 k0 HM HK hmk hc
   generalize (w.alloc (.cells c 157)).alloc (.cells #[.slice (some ⟨w.heap.size, 0, none⟩) 0 26, .bool true] 100) = W0 at HM0 HK0 ⊢
   obtain ⟨R1, R2⟩ := R
   go_loopg [15] l.length (fun g x wq => ∃ (k : Nat) (o : List Hold) (heads : Bool) (st : List Opn) (begun : Bool), x = .int .i64 k /\ k <= l.length /\ g = l.length - k /\ ShM wq w.heap.size (w.heap.size + 1) w.heap.size o heads /\ ShI o heads st begun /\ o.length <= 24 /\ Ap (w.heap.size + 1) w.heap.size W0 wq /\ shapeG o heads k (l.drop k) = (R1, R2))
   case atStart => exact ⟨0, [], true, [], false, rfl, Nat.zero_le _, rfl, HM0.out, ShI.start, by decide, Ap.refl _, HR.out⟩
   case round =>
     obtain ⟨k, o, heads, st, begun, rfl, hk, hg, hS, hI, ho, hA, hG⟩ := hrel
     have HS := Lib.hid hS
     have HI := Lib.hid hI
     have HA := Lib.hid hA
     have HG := Lib.hid hG
     have HGG := Lib.hid hg
     have HO := Lib.hid ho
     clear hS hI hA hG hg ho
     have kin : ∀ w' : World, Ap (w.heap.size + 1) w.heap.size wr w' -> Kin w w' := fun w' h => by
       have a := HA.out.trans h
       have q := HK0.out
       have qs := q.size
       exact ⟨a.os.trans q.os, a.out.trans q.out, Nat.le_trans q.size a.size, fun j hj => (a.block j (by omega) (by omega) (by omega)).trans (q.block j hj)⟩
     have KIN := Lib.hid kin
     clear kin
     by_cases hlk : k < l.length
     · obtain ⟨⟨depth, kind, name, num, op, at_⟩, hu⟩ : ∃ u, l[k]? = some u := ⟨_, List.getElem?_eq_getElem hlk⟩
       obtain ⟨gb, off, rfl, hcell⟩ := HNE.out (by rintro rfl; simp at hlk)
       have cells : ∀ (x : Nat) (v : Value), (Nd.mk depth kind name num op at_).cells[x]? = some v -> wr.cell? ⟨gb, off + k * 6 + x, none⟩ = some v := fun x v hv => by
         have := hcell k _ hu x v hv
         have hb := World.block_lt_of_cell? w _ this
         have h2 := HK0.out.cell (n := gb) (o := off + k * 6 + x) hb
         have hbz : gb < w.heap.size := hb
         have hs0 := HK0.out.size
         exact ((HA.out.cell (by omega) (by omega) (by omega)).trans h2).trans this
       have r0 := cells 0 _ rfl
       have r1 := cells 1 _ rfl
       have r2 := cells 2 _ rfl
       have r3 := cells 3 _ rfl
       have r4 := cells 4 _ rfl
       have r5 := cells 5 _ rfl
       simp only [Nat.add_zero] at r0
       have hul := HL.out _ (List.mem_of_getElem? hu)
       have hdrop : l.drop k = ⟨depth, kind, name, num, op, at_⟩ :: l.drop (k + 1) := by
         rw [List.drop_eq_getElem_cons hlk]
         rw [List.getElem?_eq_getElem hlk] at hu
         rw [Option.some.inj hu]
       have HC := Lib.hid hcell
       have HU := Lib.hid hul
       have HDR := Lib.hid hdrop
       clear cells hcell hu hul hdrop
       have hAl : Ap (w.heap.size + 1) w.heap.size wr (wr.alloc (.cells #[.int .i64 depth, .int .i64 kind, .string name, .int .i64 num, .int .i64 op, .int .i64 at_] 50)) := Ap.of_kin ((Kin.refl _).alloc _)
       have hst := stands_any ⟨depth, kind, name, num, op, at_⟩ HU.out.1 _ (HS.out.kin ((Kin.refl wr).alloc (.cells #[.int .i64 depth, .int .i64 kind, .string name, .int .i64 num, .int .i64 op, .int .i64 at_] 50))) HI.out HO.out
       have hsm := stand_same HI.out HO.out ⟨depth, kind, name, num, op, at_⟩ HU.out.2.1 HU.out.2.2
       have hG := HG.out
       rw [HDR.out] at hG
       unfold shapeG at hG
       unfold StandPost at hst
       cases hsf : standF o heads ⟨depth, kind, name, num, op, at_⟩ with
       | none =>
         rw [hsf] at hG hst
         cases hG
         have hst2 : Calls Tryz.prog 51 #[.pointer (some ⟨w.heap.size + 1, 0, none⟩), .agg #[.int .i64 depth, .int .i64 kind, .string name, .int .i64 num, .int .i64 op, .int .i64 at_]] (wr.alloc (.cells #[.int .i64 depth, .int .i64 kind, .string name, .int .i64 num, .int .i64 op, .int .i64 at_] 50)) (fun e w' => e = .returned (.bool false) /\ Kin w w') := hst.mono fun e w' h => ⟨h.2, KIN.out _ (hAl.trans h.1)⟩
         clear hst hsf hsm hAl
         go_wp2_with (go_at_call 51; refine hst2.mono ?_; rintro e w3 ⟨rfl, hk3⟩)
         go_ret2
         exact ⟨rfl, hk3⟩
       | some p =>
         obtain ⟨o', h'⟩ := p
         rcases hsm with ⟨e1, _⟩ | ⟨o1, h1, st1, b1, e1, _, e3, e4⟩
         · rw [hsf] at e1; cases e1
         rw [hsf] at e1
         cases e1
         rw [hsf] at hG hst
         dsimp only at hG
         have E3 := Lib.hid e3
         have E4 := Lib.hid e4
         have hst2 : Calls Tryz.prog 51 #[.pointer (some ⟨w.heap.size + 1, 0, none⟩), .agg #[.int .i64 depth, .int .i64 kind, .string name, .int .i64 num, .int .i64 op, .int .i64 at_]] (wr.alloc (.cells #[.int .i64 depth, .int .i64 kind, .string name, .int .i64 num, .int .i64 op, .int .i64 at_] 50)) (fun e w' => e = .returned (.bool true) /\ Ap (w.heap.size + 1) w.heap.size wr w' /\ ShM w' w.heap.size (w.heap.size + 1) w.heap.size o' h' /\ w'.cell? ⟨wr.heap.size, 0, none⟩ = some (.int .i64 depth)) := hst.mono fun e w' h => ⟨h.2.1, hAl.trans h.1, h.2.2, by
           have hz := HA.out.size
           have hz0 := HK0.out.size
           have hb := HM0.out.s.lt
           exact (h.1.cell (by simp) (by omega) (by omega)).trans (four_cell wr _ _ _ _ _ _)⟩
         clear hst hsf hAl e3 e4
         by_cases hd24 : 24 < depth
         · rw [if_pos hd24] at hG
           cases hG
           have hdd : decide (24 < depth) = true := by simp [hd24]
           have HD24 := Lib.hid hd24
           clear hd24
           go_wp2_with (go_at_call 51; refine hst2.mono ?_; rintro e w3 ⟨rfl, hA3, hS3, hc3⟩)
           go_ret2
           exact ⟨rfl, KIN.out _ hA3⟩
         · rw [if_neg hd24] at hG
           have hdd : decide (24 < depth) = false := by simp; omega
           have HD24 := Lib.hid hd24
           have HG2 := Lib.hid hG
           clear hd24 hG
           go_wp2_with (go_at_call 51; refine hst2.mono ?_; rintro e w3 ⟨rfl, hA3, hS3, hc3⟩)
           go_roundg (l.length - (k + 1))
           case measure => have := HGG.out; omega
           case rel => exact ⟨k + 1, o', h', _, _, by simp, by omega, rfl, hS3, E4.out, by have := E3.out; have := HD24.out; omega, HA.out.trans hA3, HG2.out⟩
     · have hkl : k = l.length := by omega
       subst hkl
       have hG := HG.out
       rw [List.drop_length] at hG
       unfold shapeG at hG
       have hwt := wanting_any wr HS.out
       cases hw : wantIx o with
       | none =>
         rw [hw] at hG hwt
         cases hG
         have HK1 := Lib.hid (KIN.out _ (Ap.refl _))
         go_wp2_with (go_at_call 52; refine hwt.mono ?_; rintro e w3 ⟨rfl, rfl⟩)
         go_ret2
         exact ⟨rfl, HK1.out⟩
       | some u =>
         rw [hw] at hG hwt
         cases hG
         have hx : decide ((0 : Int) <= ixV (some u)) = true := by simp [ixV]
         have HK1 := Lib.hid (KIN.out _ (Ap.refl _))
         go_wp2_with (go_at_call 52; refine hwt.mono ?_; rintro e w3 ⟨rfl, rfl⟩)
         go_ret2
         exact ⟨rfl, HK1.out⟩
end Go.Proofs.YtonmcakdofbjiaaGreatDoor
namespace Go.Proofs.YtonmcakdofbjiaaGreatDoor
open Go.RowKit
instance : DecidableEq Nd := fun a b => decidable_of_iff (a.depth = b.depth /\ a.kind = b.kind /\ a.name = b.name /\ a.num = b.num /\ a.op = b.op /\ a.at_ = b.at_) (by cases a; cases b; simp)
theorem guard50 : Tryz.prog.eqGuardType Tryz.prog.depth 50 = false := by kernel_rfl
theorem held50 : Tryz.prog.stoodInHeld 50 = false := by kernel_rfl
theorem struct50 : Tryz.prog.underlying 50 = some (.struct (Tryz.prog.fieldsOf 50)) := by kernel_rfl
theorem eq50 (a1 a2 : Int) (a3 : ByteArray) (a4 a5 a6 b1 b2 : Int) (b3 : ByteArray) (b4 b5 b6 : Int) (w : World) : (Op.equalIn 10000 50 (.agg #[.int .i64 a1, .int .i64 a2, .string a3, .int .i64 a4, .int .i64 a5, .int .i64 a6]) (.agg #[.int .i64 b1, .int .i64 b2, .string b3, .int .i64 b4, .int .i64 b5, .int .i64 b6])).run Tryz.prog w = .ok (decide (Nd.mk a1 a2 a3 a4 a5 a6 = Nd.mk b1 b2 b3 b4 b5 b6)) w := by
 rw [show (10000 : Nat) = 9999 + 1 from rfl, run_equalIn_agg w 9999 50 _ _ struct50 held50]
 simp only [Program.fieldsOf, Tryz.underlying50]
 simp [go_sem, Op.eqFields]
 have hx : (a3.toList = b3.toList) ↔ a3 = b3 := by
   constructor
   · intro h
     rw [ByteArray.toList_eq, ByteArray.toList_eq] at h
     obtain ⟨⟨x⟩⟩ := a3
     obtain ⟨⟨y⟩⟩ := b3
     have h' : x = y := h
     rw [h']
   · rintro rfl; rfl
 by_cases h1 : a1 = b1 <;> by_cases h2 : a2 = b2 <;> by_cases h3 : a3 = b3 <;> by_cases h4 : a4 = b4 <;> by_cases h5 : a5 = b5 <;> by_cases h6 : a6 = b6 <;> simp [h1, h2, h3, h4, h5, h6, hx]
theorem NodesAt.at {w : World} {b : Option Addr} {n cap : Nat} {l : List Nd} (h : NodesAt w (.slice b n cap) l) (hl : l ≠ []) : ∃ g off, b = some ⟨g, off, none⟩ /\ ∀ (j : Nat) (n : Nd), l[j]? = some n -> ∀ (k : Nat) (c : Value), n.cells[k]? = some c -> w.cell? ⟨g, off + j * 6 + k, none⟩ = some c := by
 obtain ⟨b', cap', h1, h2, h3⟩ := h
 cases h1
 exact h3 hl
theorem same_any (l1 l2 : List Nd) (hl1 : l1.length <= 9223372036854775807) (hl2 : l2.length <= 9223372036854775807) (v1 v2 : Value) (w : World) (h1 : NodesAt w v1 l1) (h2 : NodesAt w v2 l2) :
   Calls Tryz.prog 16 #[v1, v2] w fun e w' => e = .returned (.bool (decide (l1 = l2))) /\ Kin w w' := by
 have HN1 := Lib.hid h1
 have HN2 := Lib.hid h2
 obtain ⟨b1, cap1, rfl, hcap1, hne1⟩ := h1
 obtain ⟨b2, cap2, rfl, hcap2, hne2⟩ := h2
 clear hne1 hne2
 by_cases hlen : l1.length = l2.length
 · have hd : ((l1.length : Int) != (l2.length : Int)) = false := by simp [hlen]
   have HLEN := Lib.hid hlen
   clear hlen
   generalize hR : decide (l1 = l2) = R
   have HR := Lib.hid hR
   clear hR
   go_enter Tryz.func16, Tryz.ntmps16
   go_wp2_with fail
   go_loopg [5] l1.length (fun g x wq => ∃ k : Nat, x = .int .i64 k /\ k <= l1.length /\ g = l1.length - k /\ Kin w wq /\ ∀ j, j < k -> l1[j]? = l2[j]?)
   case atStart => exact ⟨0, rfl, Nat.zero_le _, rfl, Kin.refl _, fun j hj => by omega⟩
   case round =>
     obtain ⟨k, rfl, hk, hg, hK, hsame⟩ := hrel
     have HG := Lib.hid hg
     have HK := Lib.hid hK
     have HS := Lib.hid hsame
     clear hg hK hsame
     by_cases hlk : k < l1.length
     · have hlk2 : k < l2.length := by have := HLEN.out; omega
       obtain ⟨⟨a1, a2, a3, a4, a5, a6⟩, hu1⟩ : ∃ u, l1[k]? = some u := ⟨_, List.getElem?_eq_getElem hlk⟩
       obtain ⟨⟨c1, c2, c3, c4, c5, c6⟩, hu2⟩ : ∃ u, l2[k]? = some u := ⟨_, List.getElem?_eq_getElem hlk2⟩
       obtain ⟨g1, off1, rfl, hcell1⟩ := HN1.out.at (by rintro rfl; simp at hlk)
       obtain ⟨g2, off2, rfl, hcell2⟩ := HN2.out.at (by rintro rfl; simp at hlk2)
       have cells1 : ∀ (x : Nat) (v : Value), (Nd.mk a1 a2 a3 a4 a5 a6).cells[x]? = some v -> wr.cell? ⟨g1, off1 + k * 6 + x, none⟩ = some v := fun x v hv => by
         have := hcell1 k _ hu1 x v hv
         exact (HK.out.cell (World.block_lt_of_cell? w _ this)).trans this
       have cells2 : ∀ (x : Nat) (v : Value), (Nd.mk c1 c2 c3 c4 c5 c6).cells[x]? = some v -> wr.cell? ⟨g2, off2 + k * 6 + x, none⟩ = some v := fun x v hv => by
         have := hcell2 k _ hu2 x v hv
         exact (HK.out.cell (World.block_lt_of_cell? w _ this)).trans this
       have r0 := cells1 0 _ rfl
       have r1 := cells1 1 _ rfl
       have r2 := cells1 2 _ rfl
       have r3 := cells1 3 _ rfl
       have r4 := cells1 4 _ rfl
       have r5 := cells1 5 _ rfl
       have s0 := cells2 0 _ rfl
       have s1 := cells2 1 _ rfl
       have s2 := cells2 2 _ rfl
       have s3 := cells2 3 _ rfl
       have s4 := cells2 4 _ rfl
       have s5 := cells2 5 _ rfl
       simp only [Nat.add_zero] at r0 s0
       have he := eq50 a1 a2 a3 a4 a5 a6 c1 c2 c3 c4 c5 c6
       have hgd := guard50
       have HU1 := Lib.hid hu1
       have HU2 := Lib.hid hu2
       clear cells1 cells2 hcell1 hcell2 hu1 hu2
       by_cases hab : Nd.mk a1 a2 a3 a4 a5 a6 = Nd.mk c1 c2 c3 c4 c5 c6
       · rw [decide_eq_true hab] at he
         have HAB := Lib.hid hab
         clear hab
         go_wp2_with fail
         go_region
         go_wp2_with fail
         go_roundg (l1.length - (k + 1))
         case measure => have := HG.out; omega
         case rel =>
           refine ⟨k + 1, by simp, by omega, rfl, HK.out.drewN _, fun j hj => ?_⟩
           by_cases e : j = k
           · subst e; rw [HU1.out, HU2.out, HAB.out]
           · exact HS.out j (by omega)
       · rw [decide_eq_false hab] at he
         have hRf : R = false := by
           rw [<- HR.out, decide_eq_false_iff_not]
           rintro rfl
           have h1 := HU1.out
           rw [HU2.out] at h1
           exact hab (Option.some.inj h1).symm
         subst hRf
         clear hab
         go_wp2_with fail
         go_region
         go_wp2_with fail
         go_ret
         exact ⟨rfl, HK.out.drewN _⟩
     · have hkl : k = l1.length := by omega
       subst hkl
       have hRt : R = true := by
         rw [<- HR.out, decide_eq_true_iff]
         apply List.ext_getElem?
         intro j
         by_cases hj : j < l1.length
         · exact HS.out j hj
         · rw [List.getElem?_eq_none (by omega), List.getElem?_eq_none (by have := HLEN.out; omega)]
       subst hRt
       go_wp2_with fail
       go_ret
       exact ⟨rfl, HK.out⟩
 · have hd : ((l1.length : Int) != (l2.length : Int)) = true := by simp; omega
   have hn : decide (l1 = l2) = false := by
     rw [decide_eq_false_iff_not]
     rintro rfl
     exact hlen rfl
   rw [hn]
   clear hlen
   go_enter Tryz.func16, Tryz.ntmps16
   go_wp2_with fail
   go_ret
   exact ⟨rfl, Kin.refl _⟩
end Go.Proofs.YtonmcakdofbjiaaGreatDoor
namespace Go.Proofs.YtonmcakdofbjiaaGreatDoor
open Go.RowKit Go.Bsd
def fixedText : ByteArray := { data := #[120, 32, 58, 61, 32, 49, 32, 45, 32, 50, 59] }
def fixedTree : List Nd := [⟨1, 2, { data := #[120] }, 0, 0, 0⟩, ⟨2, 15, { data := #[] }, 0, 4, 7⟩, ⟨3, 10, { data := #[] }, 1, 0, 5⟩, ⟨3, 10, { data := #[] }, 2, 0, 9⟩]
theorem fixed_bad : (badOf (pieces fixedText)).1 = 0 := by kernel_rfl
theorem fixed_rd : (rd (ctx0 fixedText) 60 .prog 0).map outOfRes = some (.tree fixedTree) := by kernel_rfl
theorem fixed_parses : ParsesTo fixedText (.tree fixedTree) := by
 unfold ParsesTo
 rw [if_neg (by decide), if_neg (by rw [fixed_bad]; simp)]
 obtain ⟨r, h1, h2⟩ := Option.map_eq_some_iff.1 fixed_rd
 exact ⟨60, r, h1, h2.symm⟩
theorem fixed_shape : shapeF fixedTree = (0, 0) := by kernel_rfl
theorem fixed_shape3 : shapeF (fixedTree.take 3) = (33, 3) := by kernel_rfl
theorem NodesAt.of_owns {w : World} {base : Nat} {v : Value} {l : List Nd} (h : w.ownsRow base 50 6 v l.length (ndCells l)) : NodesAt w v l := by
 have h0 := h
 rcases h.2 with ⟨rfl, hn⟩ | ⟨g, cap, cur, rfl, hb, hg, hc, _, _, _⟩
 · refine ⟨none, 0, by rw [hn], by omega, fun hl => absurd (List.eq_nil_of_length_eq_zero hn) hl⟩
 · refine ⟨_, cap, rfl, hc, fun _ => ⟨g, 0, rfl, fun j n hj k c hk => ?_⟩⟩
   have hk6 : k < 6 := by have := (List.getElem?_eq_some_iff.1 hk).1; simpa [Nd.cells] using this
   have := h0.cells rfl (j * 6 + k) c ((nd_get hj k hk6).trans hk)
   rw [show ((⟨g, 0, none⟩ : Addr).add (j * 6 + k)) = ⟨g, j * 6 + k, none⟩ from by unfold Addr.add; split <;> simp_all] at this
   rw [show 0 + j * 6 + k = j * 6 + k from by omega]
   exact this
theorem NodesAt.of_block {w : World} {g : Nat} {cur : Array Value} {l : List Nd} {n cap : Nat} (hg : w.heap[g]? = some (.cells cur 50 (0, 0))) (hc : cur.toList.take (l.length * 6) = ndCells l) (hn : n = l.length) (hcap : l.length <= cap) : NodesAt w (.slice (some ⟨g, 0, none⟩) n cap) l := by
 refine ⟨_, cap, by rw [hn], hcap, fun _ => ⟨g, 0, rfl, fun j n hj k c hk => ?_⟩⟩
 have hk6 : k < 6 := by have := (List.getElem?_eq_some_iff.1 hk).1; simpa [Nd.cells] using this
 have hjl := (List.getElem?_eq_some_iff.1 hj).1
 have h2 := (nd_get hj k hk6).trans hk
 rw [<- hc, List.getElem?_take, if_pos (by omega)] at h2
 rw [show 0 + j * 6 + k = j * 6 + k from by omega]
 unfold World.cell?
 simp [hg]
 simpa using h2
theorem kin_re (w : World) (T : Nat -> Question -> Nat) (d : Nat) : Kin w (re w T d) := ⟨rfl, rfl, Nat.le_refl _, fun _ _ => rfl⟩
def TrueP (w : World) : Ending -> World -> Prop
 | .returned v, w' => v = .bool true /\ Kin w w'
 | _, _ => False
end Go.Proofs.YtonmcakdofbjiaaGreatDoor
namespace Go.Proofs.YtonmcakdofbjiaaGreatDoor
open Go.RowKit Go.Bsd
noncomputable def fx0 : Code := (Tryz.f13.body.getD .skip)
noncomputable def fx1 : Code := seqL (seqR fx0)
noncomputable def fx2 : Code := seqR (seqR fx0)
theorem fx0_is : fx0 = .seq (seqL fx0) (.seq fx1 fx2) := rfl
theorem fx1_is : ∃ id, fx1 = .region id (regOps fx1) false := ⟨_, rfl⟩
def fixCells : Array Value := #[.int .i64 1, .int .i64 2, .string { data := #[120] }, .int .i64 0, .int .i64 0, .int .i64 0, .int .i64 2, .int .i64 15, .string { data := #[] }, .int .i64 0, .int .i64 4, .int .i64 7, .int .i64 3, .int .i64 10, .string { data := #[] }, .int .i64 1, .int .i64 0, .int .i64 5, .int .i64 3, .int .i64 10, .string { data := #[] }, .int .i64 2, .int .i64 0, .int .i64 9]
theorem fixed_lim : ∀ n ∈ fixedTree, n.name.size <= 140737488355328 /\ -9223372036854775808 <= n.depth /\ n.depth <= 9223372036854775807 := by
 intro n hn
 simp only [fixedTree, List.mem_cons, List.not_mem_nil, or_false] at hn
 rcases hn with rfl | rfl | rfl | rfl <;> exact ⟨by decide, by decide, by decide⟩
theorem fixed_tail (w w1 : World) (kw : Kin w w1) (sl : Value) (hN : NodesAt w1 sl fixedTree) (T : Nat -> Question -> Nat) (d : Nat) (t8 t9 : Value) :
   fx2.wp Tryz.prog (bodyPost Tryz.prog Tryz.f13 (TrueP w)) { tmps := #[.bool false, sl, .nilIface, undef, undef, undef, undef, undef, t8, t9, sl, .nilIface, undef, undef, undef, undef, undef, undef, undef, undef, undef, undef, undef, undef, undef, undef, undef, undef, undef, undef, undef, undef, undef, undef, undef, undef, undef, undef, undef, undef, undef, undef, undef, undef, undef, undef, undef, undef, undef, undef], defers := [] } (re w1 T d) := by
 have k1 : Kin w1 (re w1 T d) := ⟨rfl, rfl, Nat.le_refl _, fun _ _ => rfl⟩
 have k2 : Kin w1 ((re w1 T d).alloc (.cells fixCells 50)) := k1.alloc _
 have hb : ((re w1 T d).alloc (.cells fixCells 50)).heap[w1.heap.size]? = some (.cells fixCells 50 (0, 0)) := by
   have := heap_alloc_new (re w1 T d) (.cells fixCells 50)
   simpa using this
 have n1 := hN.kin k2
 have n2 : NodesAt ((re w1 T d).alloc (.cells fixCells 50)) (.slice (some ⟨w1.heap.size, 0, none⟩) 4 4) fixedTree := NodesAt.of_block hb rfl rfl (by decide)
 have n3 : NodesAt ((re w1 T d).alloc (.cells fixCells 50)) (.slice (some ⟨w1.heap.size, 0, none⟩) 3 4) (fixedTree.take 3) := NodesAt.of_block hb rfl rfl (by decide)
 have HS := Lib.hid (same_any fixedTree fixedTree (by decide) (by decide) _ _ _ n1 n2)
 have HSh := Lib.hid (fun w' (k : Kin _ w') => shape_any fixedTree fixed_lim (by decide) _ w' (n2.kin k))
 have HSh3 := Lib.hid (fun w' (k : Kin _ w') => shape_any (fixedTree.take 3) (fun n hn => fixed_lim n (List.mem_of_mem_take hn)) (by decide) _ w' (n3.kin k))
 rw [fixed_shape] at HSh
 rw [fixed_shape3] at HSh3
 rw [decide_eq_true rfl] at HS
 have KW := Lib.hid (kw.trans k2)
 clear hN n1 n2 n3 k1 k2 hb
 obtain ⟨W2, hW2⟩ : ∃ W2, W2 = (re w1 T d).alloc (.cells fixCells 50) := ⟨_, rfl⟩
 rw [<- hW2] at HSh HSh3 KW
 have HS2 : Hid (Calls Tryz.prog 16 #[sl, .slice (some ⟨w1.heap.size, 0, none⟩) 4 4] ((re w1 T d).alloc (.cells fixCells 50)) fun e w' => e = .returned (.bool true) /\ Hid (Kin W2 w')) := Lib.hid (HS.out.mono fun e w' h => ⟨h.1, Lib.hid (by rw [hW2]; exact h.2)⟩)
 unfold fixCells at HS2
 clear HS hW2
 have hsl : ∀ u, (Instr.sliceAt 25 (.slice (some ⟨w1.heap.size, 0, none⟩) 4 4) none (some (.int .i64 3)) none).run Tryz.prog u = .ok (.slice (some ⟨w1.heap.size, 0, none⟩) 3 4) u := fun u => by
   obtain ⟨k, hk⟩ : ∃ k, ∀ w, (sizeOf (Tryz.prog.elem 25)).run Tryz.prog w = .ok k w := ⟨6, fun w => by kernel_rfl⟩
   rw [run_sliceAt_slice _ _ _ _ _ _ (by kernel_rfl), run_slice_h _ _ _ _ _ (by kernel_rfl) _ _ (by decide) (by decide), hk]
   simp [Result.andThen, sliced, Addr.add]
 generalize hB : bodyPost Tryz.prog Tryz.f13 (TrueP w) = B
 have HB := Lib.hid hB
 clear hB
 simp only [fx2, fx0, seqR, Tryz.f13, Option.getD_some]
 go_wp2_with (go_at_call 16; refine HS2.out.mono ?_; rintro e w3 ⟨rfl, hk3⟩)
 have h18 := Lib.hid (HSh.out _ hk3.out)
 refine h18.out.mono ?_
 rintro e w4 ⟨rfl, hk4'⟩
 have hk4 := Lib.hid hk4'
 clear hk4' h18
 dsimp only
 go_wp2_with fail
 have h18 := Lib.hid (HSh3.out _ (hk3.out.trans hk4.out))
 refine h18.out.mono ?_
 rintro e w5 ⟨rfl, hk5'⟩
 have hk5 := Lib.hid hk5'
 clear hk5' h18 HSh3 HSh hsl
 dsimp only
 go_wp2_with fail
 rw [<- HB.out]
 go_ret
 exact ⟨rfl, KW.out.trans (hk3.out.trans (hk4.out.trans hk5.out))⟩
end Go.Proofs.YtonmcakdofbjiaaGreatDoor
