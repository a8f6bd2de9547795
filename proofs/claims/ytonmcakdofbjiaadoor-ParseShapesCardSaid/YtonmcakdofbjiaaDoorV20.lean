/-
  The parts: base Prs6 base Prs7 base Prs8
-/
import Derived.Test.YtonmcakdofbjiaaDoorV19
import Derived.ArgAppend
set_option linter.unusedVariables false
set_option linter.unusedSimpArgs false
set_option linter.unusedSectionVars false
set_option linter.unnecessarySimpa false
set_option maxRecDepth 100000
set_option maxHeartbeats 8000000
namespace Go.Proofs.YtonmcakdofbjiaaDoor
open Go.RowKit
theorem skip_not (C : Ctx) (i : Nat) (s : ByteArray) (w : World) (h : Rd C i w) (hc : comesB C.l i s = false) : Calls Tryd.prog 32 #[.pointer (some ⟨C.r, 0, none⟩), .string s] w fun x w' => x = .returned (.bool false) /\ Rd C i w' /\ Grew C w w' :=
 (skip_no C i s w h hc).mono fun e w' ⟨h1, n, h2⟩ => by subst h2; exact ⟨h1, h.drewN n, Grew.drewN w n⟩
theorem named_rd (C : Ctx) (i : Nat) (w : World) (h : Rd C i w) : Calls Tryd.prog 46 #[.pointer (some ⟨C.r, 0, none⟩)] w fun x w' => x = .returned (.bool (namedB C.l i)) /\ Rd C i w' /\ Grew C w w' :=
 (named_any C i w h).mono fun e w' ⟨h1, n, h2⟩ => by subst h2; exact ⟨h1, h.drewN n, Grew.drewN w n⟩
theorem named_yes (C : Ctx) (i : Nat) (w : World) (h : Rd C i w) (hc : namedB C.l i = true) : Calls Tryd.prog 46 #[.pointer (some ⟨C.r, 0, none⟩)] w fun x w' => x = .returned (.bool true) /\ Rd C i w' /\ Grew C w w' := by
 have := named_rd C i w h
 rw [hc] at this
 exact this
theorem named_not (C : Ctx) (i : Nat) (w : World) (h : Rd C i w) (hc : namedB C.l i = false) : Calls Tryd.prog 46 #[.pointer (some ⟨C.r, 0, none⟩)] w fun x w' => x = .returned (.bool false) /\ Rd C i w' /\ Grew C w w' := by
 have := named_rd C i w h
 rw [hc] at this
 exact this
theorem grew_alloc2 {C : Ctx} (w : World) (o1 o2 : Obj) : Grew C w ((w.alloc o1).alloc o2) := grown_trans (World.grownBy_alloc _ _ _) (World.grownBy_alloc _ _ _)
theorem post_leaf0 {C : Ctx} {w w1 : World} {r : Res (List Tr)} {j : Nat} (n : Nd) (hr : r = .ok [.mk n []] j) (hR : Rd C j w1) (hG : Grew C w w1) (b : Option Addr) (cap : Nat) :
   PPost C w r (isTree C w) (.returned (.pointer (some ⟨w1.heap.size + 1, 0, none⟩))) ((w1.alloc (.cells #[.int .i64 n.depth, .int .i64 n.kind, .string n.name, .int .i64 n.num, .int .i64 n.op, .int .i64 n.at_] 26)).alloc (.cells #[.int .i64 n.depth, .int .i64 n.kind, .string n.name, .int .i64 n.num, .int .i64 n.op, .int .i64 n.at_, .slice b 0 cap] 84)) :=
 ⟨_, j, hr, ⟨_, _, rfl, rfl, tr_leaf n (kids0 _ w1 b cap) hR.lt hG.size⟩, (hR.alloc _).alloc _, grown_trans hG (grew_alloc2 _ _ _)⟩
theorem post_leaf1 {C : Ctx} {w w1 : World} {r : Res (List Tr)} {j p : Nat} {t : Tr} (n : Nd) (hr : r = .ok [.mk n [t]] j) (hT : TrAt (Old C w) w1 p t) (hR : Rd C j w1) (hG : Grew C w w1) :
   PPost C w r (isTree C w) (.returned (.pointer (some ⟨w1.heap.size + 1 + 1, 0, none⟩))) (((w1.alloc (.cells #[.pointer (some ⟨p, 0, none⟩)] 61)).alloc (.cells #[.int .i64 n.depth, .int .i64 n.kind, .string n.name, .int .i64 n.num, .int .i64 n.op, .int .i64 n.at_] 26)).alloc (.cells #[.int .i64 n.depth, .int .i64 n.kind, .string n.name, .int .i64 n.num, .int .i64 n.op, .int .i64 n.at_, .slice (some ⟨w1.heap.size, 0, none⟩) 1 1] 84)) := by
 have h := tr_leaf n (kids1 hT hR.lt hG.size) (by have := hR.lt; simp; omega) (by have := hG.size; simp; omega)
 have hsz : (w1.alloc (.cells #[.pointer (some ⟨p, 0, none⟩)] 61)).heap.size + 1 = w1.heap.size + 1 + 1 := by simp
 rw [hsz] at h
 exact ⟨_, j, hr, ⟨_, _, rfl, rfl, h⟩, ((hR.alloc _).alloc _).alloc _, grown_trans hG (grew_alloc3 _ _ _ _)⟩
theorem want_any (C : Ctx) (i : Nat) (s : ByteArray) (w : World) (h : Rd C i w) (hc : comesB C.l i s = true) : Calls Tryd.prog 35 #[.pointer (some ⟨C.r, 0, none⟩), .slice (some ⟨w.heap.size, 0, none⟩) 1 1] (w.alloc (.cells #[.string s] 9)) fun x w' => x = .returned (.tuple #[]) /\ Rd C (i + 1) w' /\ Grew C w w' :=
 (want_yes C i s w.heap.size _ (h.alloc _) (by simp [go_sem]) hc).mono fun e w' ⟨h1, h2, h3⟩ => ⟨h1, h2, grown_trans (World.grownBy_alloc _ _ _) h3⟩
theorem want_not (C : Ctx) (i : Nat) (s : ByteArray) (w : World) (h : Rd C i w) (hc : comesB C.l i s = false) : Calls Tryd.prog 35 #[.pointer (some ⟨C.r, 0, none⟩), .slice (some ⟨w.heap.size, 0, none⟩) 1 1] (w.alloc (.cells #[.string s] 9)) fun x w' => ∃ ch, x = .panicked ch /\ Fails C w (placeOf C.l C.e i) ch w' :=
 (want_no C i s w.heap.size _ (h.alloc _) (by simp [go_sem]) hc).mono fun e w' ⟨ch, h1, h2⟩ => ⟨ch, h1, h2.later (World.grownBy_alloc _ _ _)⟩
theorem step_unary (C : Ctx) (n : Nat) (ih : ∀ f, f <= n -> Exprs C f) (i : Nat) (w : World) (r : Res (List Tr)) (hr : rd C (n + 1) .unary i = some r) (h : Rd C i w) : Calls Tryd.prog 69 #[.pointer (some ⟨C.r, 0, none⟩)] w (PPost C w r (isTree C w)) := by
 have hU := (ih n (Nat.le_refl _)).unary
 have hA := (ih n (Nat.le_refl _)).atom
 have hlt := h.lt
 clear ih
 simp only [rd] at hr
 by_cases c1 : comesB C.l i ⟨#[45]⟩ = true
 · rw [if_pos c1] at hr
   cases hx : rd C n .unary (i + 1) with
   | none => rw [hx] at hr; cases hr
   | some x =>
     rw [hx] at hr
     have hS := fun W a => hU (i + 1) W x hx a
     clear hx hU hA
     cases x with
     | no p =>
       obtain rfl : Res.no p = r := by simpa only [andThen, Option.some.injEq] using hr
       have hS := fun W a => calls_no (hS W a)
       clear hr
       go_enter Tryd.func69, Tryd.ntmps69
       go_wp2_with (first | (go_at_call 31; with_reducible refine (at_rd C i _ (by assumption)).mono ?_; rintro e w1 ⟨rfl, hR1, hG1⟩) | (go_at_call 32; with_reducible refine (skip_yes C i ⟨#[45]⟩ _ (by assumption) c1).mono ?_; rintro e w2 ⟨rfl, hR2, hG2⟩) | (go_at_call 69; with_reducible refine (hS _ (by assumption)).mono ?_; rintro e w3 ⟨ch, rfl, hF⟩))
       exact ⟨rfl, _, rfl, hF.later (grown_trans hG1 hG2)⟩
     | ok ts j =>
       have HE := Lib.hid (Option.some.inj hr)
       have hS := fun W a => calls_tree (hS W a)
       clear hr
       go_enter Tryd.func69, Tryd.ntmps69
       go_wp2_with (first | (go_at_call 31; with_reducible refine (at_rd C i _ (by assumption)).mono ?_; rintro e w1 ⟨rfl, hR1, hG1⟩) | (go_at_call 32; with_reducible refine (skip_yes C i ⟨#[45]⟩ _ (by assumption) c1).mono ?_; rintro e w2 ⟨rfl, hR2, hG2⟩) | (go_at_call 69; with_reducible refine (hS _ (by assumption)).mono ?_; rintro e w3 ⟨t3, p3, ht3, rfl, hT3, hR3, hG3⟩) | (go_at_call 33; with_reducible refine (leaf_any ⟨0, 14, ⟨#[]⟩, 0, 1, placeOf C.l C.e i⟩ _ _ _ _).mono ?_; rintro e wl ⟨rfl, rfl⟩))
       subst ht3
       go_ret
       exact post_leaf1 ⟨0, 14, ⟨#[]⟩, 0, 1, placeOf C.l C.e i⟩ HE.out.symm (hT3.mono (old_le (grown_trans hG1 hG2))) hR3 (grown_trans hG1 (grown_trans hG2 hG3))
 · rw [if_neg c1] at hr
   have d1 : comesB C.l i ⟨#[45]⟩ = false := by simpa using c1
   clear c1
   by_cases c2 : comesB C.l i ⟨#[33]⟩ = true
   · rw [if_pos c2] at hr
     cases hx : rd C n .unary (i + 1) with
     | none => rw [hx] at hr; cases hr
     | some x =>
       rw [hx] at hr
       have hS := fun W a => hU (i + 1) W x hx a
       clear hx hU hA
       cases x with
       | no p =>
         obtain rfl : Res.no p = r := by simpa only [andThen, Option.some.injEq] using hr
         have hS := fun W a => calls_no (hS W a)
         clear hr
         go_enter Tryd.func69, Tryd.ntmps69
         go_wp2_with (first | (go_at_call 31; with_reducible refine (at_rd C i _ (by assumption)).mono ?_; rintro e w1 ⟨rfl, hR1, hG1⟩) | (go_at_call 32; with_reducible refine (skip_not C i ⟨#[45]⟩ _ (by assumption) d1).mono ?_; rintro e w2 ⟨rfl, hR2, hG2⟩) | (go_at_call 32; with_reducible refine (skip_yes C i ⟨#[33]⟩ _ (by assumption) c2).mono ?_; rintro e w3 ⟨rfl, hR3, hG3⟩) | (go_at_call 69; with_reducible refine (hS _ (by assumption)).mono ?_; rintro e w4 ⟨ch, rfl, hF⟩))
         exact ⟨rfl, _, rfl, hF.later (grown_trans hG1 (grown_trans hG2 hG3))⟩
       | ok ts j =>
         have HE := Lib.hid (Option.some.inj hr)
         have hS := fun W a => calls_tree (hS W a)
         clear hr
         go_enter Tryd.func69, Tryd.ntmps69
         go_wp2_with (first | (go_at_call 31; with_reducible refine (at_rd C i _ (by assumption)).mono ?_; rintro e w1 ⟨rfl, hR1, hG1⟩) | (go_at_call 32; with_reducible refine (skip_not C i ⟨#[45]⟩ _ (by assumption) d1).mono ?_; rintro e w2 ⟨rfl, hR2, hG2⟩) | (go_at_call 32; with_reducible refine (skip_yes C i ⟨#[33]⟩ _ (by assumption) c2).mono ?_; rintro e w3 ⟨rfl, hR3, hG3⟩) | (go_at_call 69; with_reducible refine (hS _ (by assumption)).mono ?_; rintro e w4 ⟨t4, p4, ht4, rfl, hT4, hR4, hG4⟩) | (go_at_call 33; with_reducible refine (leaf_any ⟨0, 14, ⟨#[]⟩, 0, 2, placeOf C.l C.e i⟩ _ _ _ _).mono ?_; rintro e wl ⟨rfl, rfl⟩))
         subst ht4
         go_ret
         exact post_leaf1 ⟨0, 14, ⟨#[]⟩, 0, 2, placeOf C.l C.e i⟩ HE.out.symm (hT4.mono (old_le (grown_trans hG1 (grown_trans hG2 hG3)))) hR4 (grown_trans hG1 (grown_trans hG2 (grown_trans hG3 hG4)))
   · rw [if_neg c2] at hr
     have d2 : comesB C.l i ⟨#[33]⟩ = false := by simpa using c2
     clear c2
     have hS := fun W a => hA i W r hr a
     clear hU hA hr
     cases r with
     | no p =>
       have hS := fun W a => calls_no (hS W a)
       go_enter Tryd.func69, Tryd.ntmps69
       go_wp2_with (first | (go_at_call 31; with_reducible refine (at_rd C i _ (by assumption)).mono ?_; rintro e w1 ⟨rfl, hR1, hG1⟩) | (go_at_call 32; with_reducible refine (skip_not C i ⟨#[45]⟩ _ (by assumption) d1).mono ?_; rintro e w2 ⟨rfl, hR2, hG2⟩) | (go_at_call 32; with_reducible refine (skip_not C i ⟨#[33]⟩ _ (by assumption) d2).mono ?_; rintro e w3 ⟨rfl, hR3, hG3⟩) | (go_at_call 72; with_reducible refine (hS _ (by assumption)).mono ?_; rintro e w4 ⟨ch, rfl, hF⟩))
       exact ⟨rfl, _, rfl, hF.later (grown_trans hG1 (grown_trans hG2 hG3))⟩
     | ok ts j =>
       have hS := fun W a => calls_tree (hS W a)
       go_enter Tryd.func69, Tryd.ntmps69
       go_wp2_with (first | (go_at_call 31; with_reducible refine (at_rd C i _ (by assumption)).mono ?_; rintro e w1 ⟨rfl, hR1, hG1⟩) | (go_at_call 32; with_reducible refine (skip_not C i ⟨#[45]⟩ _ (by assumption) d1).mono ?_; rintro e w2 ⟨rfl, hR2, hG2⟩) | (go_at_call 32; with_reducible refine (skip_not C i ⟨#[33]⟩ _ (by assumption) d2).mono ?_; rintro e w3 ⟨rfl, hR3, hG3⟩) | (go_at_call 72; with_reducible refine (hS _ (by assumption)).mono ?_; rintro e w4 ⟨t4, p4, ht4, rfl, hT4, hR4, hG4⟩))
       subst ht4
       go_ret
       exact post_tree rfl (hT4.mono (old_le (grown_trans hG1 (grown_trans hG2 hG3)))) hR4 (grown_trans hG1 (grown_trans hG2 (grown_trans hG3 hG4))) 0
end Go.Proofs.YtonmcakdofbjiaaDoor
namespace Go.Proofs.YtonmcakdofbjiaaDoor
open Go.RowKit
theorem step_expr (C : Ctx) (n : Nat) (ih : ∀ f, f <= n -> Exprs C f) (i : Nat) (w : World) (r : Res (List Tr)) (hr : rd C (n + 1) (.row 0) i = some r) (h : Rd C i w) : Calls Tryd.prog 60 #[.pointer (some ⟨C.r, 0, none⟩)] w (PPost C w r (isTree C w)) := by
 have hrow : ∀ (m : Nat) (W : World), Grew C (w.alloc (.cells #[.pointer (some ⟨C.r, 0, none⟩)] 56)) W -> W.heap[m]? = some (.map (mapOf 0) 1) -> m ≠ C.r -> Rd C i W -> Calls Tryd.prog 64 #[.pointer (some ⟨C.r, 0, none⟩), .func (.func 65) #[] #[.pointer (some ⟨w.heap.size, 0, none⟩)], .bool false, .map (some m)] W (PPost C W r (isTree C W)) := fun m W hg hm hmr hR =>
   row_any C 0 n n 65 #[] #[.pointer (some ⟨w.heap.size, 0, none⟩)] m 1 (Box C w.heap.size) cf169 (fun w w' h hg => Box.grew w w' h hg) (fun f' hf' i w r hr hR hB => (ih f' hf').r1 i w r _ hr hR hB) (Nat.le_refl _) i W r (by have h1 := hr; simp only [rd, show ¬ 5 <= 0 from by omega, if_false] at h1; exact h1) hR (Box.grew _ _ ⟨by simp [go_sem], by have := h.lt; omega⟩ hg) hm hmr _ (by decide)
 have hmk := run_makeMap229 0
 have hheap := Lib.hid (show ∀ (o o' : Obj), ((w.alloc o).alloc o').heap[w.heap.size + 1]? = some o' from fun o o' => by simpa using heap_alloc_new (w.alloc o) o')
 have g0 : ∀ o, (Instr.mapUpdate 104 (.map (some (w.heap.size + 1))) (.string { data := #[124, 124] }) (.int .i64 15)).run Tryd.prog ((w.alloc o).alloc (.map (pre 0 0) 0)) = .ok () ((w.alloc o).alloc (.map (pre 0 1) 1)) := fun o => by simpa using ins_0_0 (w.alloc o)
 have hlt := h.lt
 have HRd := Lib.hid h
 clear hr h ih
 cases r with
 | no p =>
   have hrow := fun m W a b c d => calls_no (hrow m W a b c d)
   go_enter Tryd.func60, Tryd.ntmps60
   go_wp2_with (go_at_call 64; refine (hrow (w.heap.size + 1) _ (World.grownBy_alloc _ _ _) (hheap.out _ _) (by omega) ((HRd.out.alloc _).alloc _)).mono ?_; rintro e w' ⟨ch, rfl, hF⟩)
   exact ⟨rfl, _, rfl, hF.later (grew_alloc2 w _ _)⟩
 | ok ts j =>
   have hrow := fun m W a b c d => calls_tree (hrow m W a b c d)
   go_enter Tryd.func60, Tryd.ntmps60
   go_wp2_with (go_at_call 64; refine (hrow (w.heap.size + 1) _ (World.grownBy_alloc _ _ _) (hheap.out _ _) (by omega) ((HRd.out.alloc _).alloc _)).mono ?_; rintro e w' ⟨t, p, rfl, rfl, hT, hR, hG⟩)
   go_ret
   exact post_tree rfl (hT.mono (old_le (grew_alloc2 w _ _))) hR (grown_trans (grew_alloc2 w _ _) hG) 0
theorem step_atom (C : Ctx) (n : Nat) (ih : ∀ f, f <= n -> Exprs C f) (i : Nat) (w : World) (r : Res (List Tr)) (hr : rd C (n + 1) .atom i = some r) (h : Rd C i w) : Calls Tryd.prog 72 #[.pointer (some ⟨C.r, 0, none⟩)] w (PPost C w r (isTree C w)) := by
 have hX := (ih n (Nat.le_refl _)).expr
 have hlt := h.lt
 clear ih
 simp only [rd] at hr
 by_cases c1 : comesB C.l i ⟨#[116, 114, 117, 101]⟩ = true
 · rw [if_pos c1] at hr
   have HE := Lib.hid (Option.some.inj hr)
   clear hr hX
   go_enter Tryd.func72, Tryd.ntmps72
   go_wp2_with (first | (go_at_call 31; with_reducible refine (at_rd C i _ (by assumption)).mono ?_; rintro e w1 ⟨rfl, hR1, hG1⟩) | (go_at_call 32; with_reducible refine (skip_yes C i ⟨#[116, 114, 117, 101]⟩ _ (by assumption) c1).mono ?_; rintro e w2 ⟨rfl, hR2, hG2⟩) | (go_at_call 33; with_reducible refine (leaf_any ⟨0, 11, ⟨#[]⟩, 1, 0, placeOf C.l C.e i⟩ _ _ _ _).mono ?_; rintro e wl ⟨rfl, rfl⟩))
   go_ret
   exact post_leaf0 ⟨0, 11, ⟨#[]⟩, 1, 0, placeOf C.l C.e i⟩ HE.out.symm hR2 (grown_trans hG1 hG2) _ _
 · rw [if_neg c1] at hr
   have d1 : comesB C.l i ⟨#[116, 114, 117, 101]⟩ = false := by simpa using c1
   clear c1
   by_cases c2 : comesB C.l i ⟨#[102, 97, 108, 115, 101]⟩ = true
   · rw [if_pos c2] at hr
     have HE := Lib.hid (Option.some.inj hr)
     clear hr hX
     go_enter Tryd.func72, Tryd.ntmps72
     go_wp2_with (first | (go_at_call 31; with_reducible refine (at_rd C i _ (by assumption)).mono ?_; rintro e w1 ⟨rfl, hR1, hG1⟩) | (go_at_call 32; with_reducible refine (skip_not C i ⟨#[116, 114, 117, 101]⟩ _ (by assumption) d1).mono ?_; rintro e w2 ⟨rfl, hR2, hG2⟩) | (go_at_call 32; with_reducible refine (skip_yes C i ⟨#[102, 97, 108, 115, 101]⟩ _ (by assumption) c2).mono ?_; rintro e w3 ⟨rfl, hR3, hG3⟩) | (go_at_call 33; with_reducible refine (leaf_any ⟨0, 11, ⟨#[]⟩, 0, 0, placeOf C.l C.e i⟩ _ _ _ _).mono ?_; rintro e wl ⟨rfl, rfl⟩))
     go_ret
     exact post_leaf0 ⟨0, 11, ⟨#[]⟩, 0, 0, placeOf C.l C.e i⟩ HE.out.symm hR3 (grown_trans hG1 (grown_trans hG2 hG3)) _ _
   · rw [if_neg c2] at hr
     have d2 : comesB C.l i ⟨#[102, 97, 108, 115, 101]⟩ = false := by simpa using c2
     clear c2
     by_cases c3 : comesB C.l i ⟨#[40]⟩ = true
     · rw [if_pos c3] at hr
       cases hx : rd C n (.row 0) (i + 1) with
       | none => rw [hx] at hr; cases hr
       | some x =>
         rw [hx] at hr
         have hS := fun W a => hX (i + 1) W x hx a
         clear hx
         cases x with
         | no p =>
           obtain rfl : Res.no p = r := by simpa only [andThen, Option.some.injEq] using hr
           have hS := fun W a => calls_no (hS W a)
           clear hr hX
           go_enter Tryd.func72, Tryd.ntmps72
           go_wp2_with (first | (go_at_call 31; with_reducible refine (at_rd C i _ (by assumption)).mono ?_; rintro e w1 ⟨rfl, hR1, hG1⟩) | (go_at_call 32; with_reducible refine (skip_not C i ⟨#[116, 114, 117, 101]⟩ _ (by assumption) d1).mono ?_; rintro e w2 ⟨rfl, hR2, hG2⟩) | (go_at_call 32; with_reducible refine (skip_not C i ⟨#[102, 97, 108, 115, 101]⟩ _ (by assumption) d2).mono ?_; rintro e w3 ⟨rfl, hR3, hG3⟩) | (go_at_call 32; with_reducible refine (skip_yes C i ⟨#[40]⟩ _ (by assumption) c3).mono ?_; rintro e w4 ⟨rfl, hR4, hG4⟩) | (go_at_call 60; with_reducible refine (hS _ (by assumption)).mono ?_; rintro e w5 ⟨ch, rfl, hF⟩))
           exact ⟨rfl, _, rfl, hF.later (grown_trans hG1 (grown_trans hG2 (grown_trans hG3 hG4)))⟩
         | ok ts j =>
           have hS := fun W a => calls_tree (hS W a)
           simp only [andThen] at hr
           by_cases c4 : comesB C.l j ⟨#[41]⟩ = true
           · simp only [wantR, if_pos c4, andThen] at hr
             have HE := Lib.hid (Option.some.inj hr)
             clear hr hX
             go_enter Tryd.func72, Tryd.ntmps72
             go_wp2_with (first | (go_at_call 31; with_reducible refine (at_rd C i _ (by assumption)).mono ?_; rintro e w1 ⟨rfl, hR1, hG1⟩) | (go_at_call 32; with_reducible refine (skip_not C i ⟨#[116, 114, 117, 101]⟩ _ (by assumption) d1).mono ?_; rintro e w2 ⟨rfl, hR2, hG2⟩) | (go_at_call 32; with_reducible refine (skip_not C i ⟨#[102, 97, 108, 115, 101]⟩ _ (by assumption) d2).mono ?_; rintro e w3 ⟨rfl, hR3, hG3⟩) | (go_at_call 32; with_reducible refine (skip_yes C i ⟨#[40]⟩ _ (by assumption) c3).mono ?_; rintro e w4 ⟨rfl, hR4, hG4⟩) | (go_at_call 60; with_reducible refine (hS _ (by assumption)).mono ?_; rintro e w5 ⟨t5, p5, ht5, rfl, hT5, hR5, hG5⟩) | (go_at_call 35; with_reducible refine (want_any C j ⟨#[41]⟩ _ (by assumption) c4).mono ?_; rintro e w6 ⟨rfl, hR6, hG6⟩))
             subst ht5
             go_ret
             exact post_tree HE.out.symm ((hT5.mono (old_le (grown_trans hG1 (grown_trans hG2 (grown_trans hG3 hG4))))).grew hG6) hR6 (grown_trans hG1 (grown_trans hG2 (grown_trans hG3 (grown_trans hG4 (grown_trans hG5 hG6))))) 0
           · have c4n : comesB C.l j ⟨#[41]⟩ = false := by simpa using c4
             simp only [wantR, if_neg c4, andThen, Option.some.injEq] at hr
             subst hr
             clear c4
             go_enter Tryd.func72, Tryd.ntmps72
             go_wp2_with (first | (go_at_call 31; with_reducible refine (at_rd C i _ (by assumption)).mono ?_; rintro e w1 ⟨rfl, hR1, hG1⟩) | (go_at_call 32; with_reducible refine (skip_not C i ⟨#[116, 114, 117, 101]⟩ _ (by assumption) d1).mono ?_; rintro e w2 ⟨rfl, hR2, hG2⟩) | (go_at_call 32; with_reducible refine (skip_not C i ⟨#[102, 97, 108, 115, 101]⟩ _ (by assumption) d2).mono ?_; rintro e w3 ⟨rfl, hR3, hG3⟩) | (go_at_call 32; with_reducible refine (skip_yes C i ⟨#[40]⟩ _ (by assumption) c3).mono ?_; rintro e w4 ⟨rfl, hR4, hG4⟩) | (go_at_call 60; with_reducible refine (hS _ (by assumption)).mono ?_; rintro e w5 ⟨t5, p5, ht5, rfl, hT5, hR5, hG5⟩) | (go_at_call 35; with_reducible refine (want_not C j ⟨#[41]⟩ _ (by assumption) c4n).mono ?_; rintro e w6 ⟨ch, rfl, hF⟩))
             exact ⟨rfl, _, rfl, hF.later (grown_trans hG1 (grown_trans hG2 (grown_trans hG3 (grown_trans hG4 hG5))))⟩
     · rw [if_neg c3] at hr
       have d3 : comesB C.l i ⟨#[40]⟩ = false := by simpa using c3
       clear c3
       by_cases c5 : namedB C.l i = true
       · rw [if_pos c5] at hr
         by_cases c6 : comesB C.l (i + 1) ⟨#[91]⟩ = true
         · rw [if_pos c6] at hr
           cases hx : rd C n (.row 0) (i + 2) with
           | none => rw [hx] at hr; cases hr
           | some x =>
             rw [hx] at hr
             have hS := fun W a => hX (i + 2) W x hx a
             clear hx
             cases x with
             | no p =>
               obtain rfl : Res.no p = r := by simpa only [andThen, Option.some.injEq] using hr
               have hS := fun W a => calls_no (hS W a)
               clear hr hX
               go_enter Tryd.func72, Tryd.ntmps72
               go_wp2_with (first | (go_at_call 31; with_reducible refine (at_rd C i _ (by assumption)).mono ?_; rintro e w1 ⟨rfl, hR1, hG1⟩) | (go_at_call 32; with_reducible refine (skip_not C i ⟨#[116, 114, 117, 101]⟩ _ (by assumption) d1).mono ?_; rintro e w2 ⟨rfl, hR2, hG2⟩) | (go_at_call 32; with_reducible refine (skip_not C i ⟨#[102, 97, 108, 115, 101]⟩ _ (by assumption) d2).mono ?_; rintro e w3 ⟨rfl, hR3, hG3⟩) | (go_at_call 32; with_reducible refine (skip_not C i ⟨#[40]⟩ _ (by assumption) d3).mono ?_; rintro e w4 ⟨rfl, hR4, hG4⟩) | (go_at_call 46; with_reducible refine (named_yes C i _ (by assumption) c5).mono ?_; rintro e w5 ⟨rfl, hR5, hG5⟩) | (go_at_call 34; with_reducible refine (name_yes C i _ (by assumption) c5).mono ?_; rintro e w6 ⟨rfl, hR6, hG6⟩) | (go_at_call 32; with_reducible refine (skip_yes C (i + 1) ⟨#[91]⟩ _ (by assumption) c6).mono ?_; rintro e w7 ⟨rfl, hR7, hG7⟩) | (go_at_call 60; with_reducible refine (hS _ (by assumption)).mono ?_; rintro e w8 ⟨ch, rfl, hF⟩))
               exact ⟨rfl, _, rfl, hF.later (grown_trans hG1 (grown_trans hG2 (grown_trans hG3 (grown_trans hG4 (grown_trans hG5 (grown_trans hG6 hG7))))))⟩
             | ok ts j =>
               have hS := fun W a => calls_tree (hS W a)
               simp only [andThen] at hr
               by_cases c7 : comesB C.l j ⟨#[93]⟩ = true
               · simp only [wantR, if_pos c7, andThen] at hr
                 have HE := Lib.hid (Option.some.inj hr)
                 clear hr hX
                 go_enter Tryd.func72, Tryd.ntmps72
                 go_wp2_with (first | (go_at_call 31; with_reducible refine (at_rd C i _ (by assumption)).mono ?_; rintro e w1 ⟨rfl, hR1, hG1⟩) | (go_at_call 32; with_reducible refine (skip_not C i ⟨#[116, 114, 117, 101]⟩ _ (by assumption) d1).mono ?_; rintro e w2 ⟨rfl, hR2, hG2⟩) | (go_at_call 32; with_reducible refine (skip_not C i ⟨#[102, 97, 108, 115, 101]⟩ _ (by assumption) d2).mono ?_; rintro e w3 ⟨rfl, hR3, hG3⟩) | (go_at_call 32; with_reducible refine (skip_not C i ⟨#[40]⟩ _ (by assumption) d3).mono ?_; rintro e w4 ⟨rfl, hR4, hG4⟩) | (go_at_call 46; with_reducible refine (named_yes C i _ (by assumption) c5).mono ?_; rintro e w5 ⟨rfl, hR5, hG5⟩) | (go_at_call 34; with_reducible refine (name_yes C i _ (by assumption) c5).mono ?_; rintro e w6 ⟨rfl, hR6, hG6⟩) | (go_at_call 32; with_reducible refine (skip_yes C (i + 1) ⟨#[91]⟩ _ (by assumption) c6).mono ?_; rintro e w7 ⟨rfl, hR7, hG7⟩) | (go_at_call 60; with_reducible refine (hS _ (by assumption)).mono ?_; rintro e w8 ⟨t8, p8, ht8, rfl, hT8, hR8, hG8⟩) | (go_at_call 35; with_reducible refine (want_any C j ⟨#[93]⟩ _ (by assumption) c7).mono ?_; rintro e w9 ⟨rfl, hR9, hG9⟩) | (go_at_call 33; with_reducible refine (leaf_any ⟨0, 13, textAt C.l i, 0, 0, placeOf C.l C.e i⟩ _ _ _ _).mono ?_; rintro e wl ⟨rfl, rfl⟩))
                 subst ht8
                 go_ret
                 exact post_leaf1 ⟨0, 13, textAt C.l i, 0, 0, placeOf C.l C.e i⟩ HE.out.symm ((hT8.mono (old_le (grown_trans hG1 (grown_trans hG2 (grown_trans hG3 (grown_trans hG4 (grown_trans hG5 (grown_trans hG6 hG7)))))))).grew hG9) hR9 (grown_trans hG1 (grown_trans hG2 (grown_trans hG3 (grown_trans hG4 (grown_trans hG5 (grown_trans hG6 (grown_trans hG7 (grown_trans hG8 hG9))))))))
               · have c7n : comesB C.l j ⟨#[93]⟩ = false := by simpa using c7
                 simp only [wantR, if_neg c7, andThen, Option.some.injEq] at hr
                 subst hr
                 clear c7
                 go_enter Tryd.func72, Tryd.ntmps72
                 go_wp2_with (first | (go_at_call 31; with_reducible refine (at_rd C i _ (by assumption)).mono ?_; rintro e w1 ⟨rfl, hR1, hG1⟩) | (go_at_call 32; with_reducible refine (skip_not C i ⟨#[116, 114, 117, 101]⟩ _ (by assumption) d1).mono ?_; rintro e w2 ⟨rfl, hR2, hG2⟩) | (go_at_call 32; with_reducible refine (skip_not C i ⟨#[102, 97, 108, 115, 101]⟩ _ (by assumption) d2).mono ?_; rintro e w3 ⟨rfl, hR3, hG3⟩) | (go_at_call 32; with_reducible refine (skip_not C i ⟨#[40]⟩ _ (by assumption) d3).mono ?_; rintro e w4 ⟨rfl, hR4, hG4⟩) | (go_at_call 46; with_reducible refine (named_yes C i _ (by assumption) c5).mono ?_; rintro e w5 ⟨rfl, hR5, hG5⟩) | (go_at_call 34; with_reducible refine (name_yes C i _ (by assumption) c5).mono ?_; rintro e w6 ⟨rfl, hR6, hG6⟩) | (go_at_call 32; with_reducible refine (skip_yes C (i + 1) ⟨#[91]⟩ _ (by assumption) c6).mono ?_; rintro e w7 ⟨rfl, hR7, hG7⟩) | (go_at_call 60; with_reducible refine (hS _ (by assumption)).mono ?_; rintro e w8 ⟨t8, p8, ht8, rfl, hT8, hR8, hG8⟩) | (go_at_call 35; with_reducible refine (want_not C j ⟨#[93]⟩ _ (by assumption) c7n).mono ?_; rintro e w9 ⟨ch, rfl, hF⟩))
                 exact ⟨rfl, _, rfl, hF.later (grown_trans hG1 (grown_trans hG2 (grown_trans hG3 (grown_trans hG4 (grown_trans hG5 (grown_trans hG6 (grown_trans hG7 hG8)))))))⟩
         · rw [if_neg c6] at hr
           have d6 : comesB C.l (i + 1) ⟨#[91]⟩ = false := by simpa using c6
           clear c6
           have HE := Lib.hid (Option.some.inj hr)
           clear hr hX
           go_enter Tryd.func72, Tryd.ntmps72
           go_wp2_with (first | (go_at_call 31; with_reducible refine (at_rd C i _ (by assumption)).mono ?_; rintro e w1 ⟨rfl, hR1, hG1⟩) | (go_at_call 32; with_reducible refine (skip_not C i ⟨#[116, 114, 117, 101]⟩ _ (by assumption) d1).mono ?_; rintro e w2 ⟨rfl, hR2, hG2⟩) | (go_at_call 32; with_reducible refine (skip_not C i ⟨#[102, 97, 108, 115, 101]⟩ _ (by assumption) d2).mono ?_; rintro e w3 ⟨rfl, hR3, hG3⟩) | (go_at_call 32; with_reducible refine (skip_not C i ⟨#[40]⟩ _ (by assumption) d3).mono ?_; rintro e w4 ⟨rfl, hR4, hG4⟩) | (go_at_call 46; with_reducible refine (named_yes C i _ (by assumption) c5).mono ?_; rintro e w5 ⟨rfl, hR5, hG5⟩) | (go_at_call 34; with_reducible refine (name_yes C i _ (by assumption) c5).mono ?_; rintro e w6 ⟨rfl, hR6, hG6⟩) | (go_at_call 32; with_reducible refine (skip_not C (i + 1) ⟨#[91]⟩ _ (by assumption) d6).mono ?_; rintro e w7 ⟨rfl, hR7, hG7⟩) | (go_at_call 33; with_reducible refine (leaf_any ⟨0, 12, textAt C.l i, 0, 0, placeOf C.l C.e i⟩ _ _ _ _).mono ?_; rintro e wl ⟨rfl, rfl⟩))
           go_ret
           exact post_leaf0 ⟨0, 12, textAt C.l i, 0, 0, placeOf C.l C.e i⟩ HE.out.symm hR7 (grown_trans hG1 (grown_trans hG2 (grown_trans hG3 (grown_trans hG4 (grown_trans hG5 (grown_trans hG6 hG7)))))) _ _
       · rw [if_neg c5] at hr
         have d5 : namedB C.l i = false := by simpa using c5
         clear c5 hX
         by_cases c8 : numbB C.l i = true
         · simp only [numberR, if_pos c8, andThen] at hr
           have HE := Lib.hid (Option.some.inj hr)
           clear hr
           go_enter Tryd.func72, Tryd.ntmps72
           go_wp2_with (first | (go_at_call 31; with_reducible refine (at_rd C i _ (by assumption)).mono ?_; rintro e w1 ⟨rfl, hR1, hG1⟩) | (go_at_call 32; with_reducible refine (skip_not C i ⟨#[116, 114, 117, 101]⟩ _ (by assumption) d1).mono ?_; rintro e w2 ⟨rfl, hR2, hG2⟩) | (go_at_call 32; with_reducible refine (skip_not C i ⟨#[102, 97, 108, 115, 101]⟩ _ (by assumption) d2).mono ?_; rintro e w3 ⟨rfl, hR3, hG3⟩) | (go_at_call 32; with_reducible refine (skip_not C i ⟨#[40]⟩ _ (by assumption) d3).mono ?_; rintro e w4 ⟨rfl, hR4, hG4⟩) | (go_at_call 46; with_reducible refine (named_not C i _ (by assumption) d5).mono ?_; rintro e w5 ⟨rfl, hR5, hG5⟩) | (go_at_call 36; with_reducible refine (number_yes C i _ (by assumption) c8).mono ?_; rintro e w6 ⟨rfl, hR6, hG6⟩) | (go_at_call 33; with_reducible refine (leaf_any ⟨0, 10, ⟨#[]⟩, numAtT C.l i, 0, placeOf C.l C.e i⟩ _ _ _ _).mono ?_; rintro e wl ⟨rfl, rfl⟩))
           go_ret
           exact post_leaf0 ⟨0, 10, ⟨#[]⟩, numAtT C.l i, 0, placeOf C.l C.e i⟩ HE.out.symm hR6 (grown_trans hG1 (grown_trans hG2 (grown_trans hG3 (grown_trans hG4 (grown_trans hG5 hG6))))) _ _
         · have d8 : numbB C.l i = false := by simpa using c8
           simp only [numberR, if_neg c8, andThen, Option.some.injEq] at hr
           subst hr
           clear c8
           go_enter Tryd.func72, Tryd.ntmps72
           go_wp2_with (first | (go_at_call 31; with_reducible refine (at_rd C i _ (by assumption)).mono ?_; rintro e w1 ⟨rfl, hR1, hG1⟩) | (go_at_call 32; with_reducible refine (skip_not C i ⟨#[116, 114, 117, 101]⟩ _ (by assumption) d1).mono ?_; rintro e w2 ⟨rfl, hR2, hG2⟩) | (go_at_call 32; with_reducible refine (skip_not C i ⟨#[102, 97, 108, 115, 101]⟩ _ (by assumption) d2).mono ?_; rintro e w3 ⟨rfl, hR3, hG3⟩) | (go_at_call 32; with_reducible refine (skip_not C i ⟨#[40]⟩ _ (by assumption) d3).mono ?_; rintro e w4 ⟨rfl, hR4, hG4⟩) | (go_at_call 46; with_reducible refine (named_not C i _ (by assumption) d5).mono ?_; rintro e w5 ⟨rfl, hR5, hG5⟩) | (go_at_call 36; with_reducible refine (number_no C i _ (by assumption) d8).mono ?_; rintro e w6 ⟨ch, rfl, hF⟩))
           exact ⟨rfl, _, rfl, hF.later (grown_trans hG1 (grown_trans hG2 (grown_trans hG3 (grown_trans hG4 hG5))))⟩
theorem exprs_all (C : Ctx) : ∀ f, Exprs C f := by
 intro f
 induction f using Nat.strongRecOn with
 | _ f ih =>
   cases f with
   | zero => exact exprs_zero C
   | succ n =>
     have ih' : ∀ f, f <= n -> Exprs C f := fun f hf => ih f (by omega)
     refine ⟨step_expr C n ih', step_r1 C n ih', step_r2 C n ih', step_r3 C n ih', step_r4 C n ih', fun i w r hr h => ?_, step_unary C n ih', step_atom C n ih'⟩
     simp only [rd, show (5 <= 5) from Nat.le_refl _, if_true] at hr
     exact (ih' n (Nat.le_refl _)).unary i w r hr h
end Go.Proofs.YtonmcakdofbjiaaDoor
namespace Go.Proofs.YtonmcakdofbjiaaDoor
open Go.RowKit
theorem run_append_row {P : Program} (w : World) (base : Nat) (t ty e : TypeId) (i : TypeInfo) (z : Value) (size bytes : Nat) (ht : P.underlying t = some (.slice e)) (hi : P.info? e = some i) (hz : i.zero = some z)
   (hsize : i.size = size) (hby : i.bytes = bytes) (hzs : z.cells.size = size) (hsz : 0 < size)
   (v : Value) (n : Nat) (xs : List Value) (hown : w.ownsRow base e size v n xs)
   (a : Addr) (m c : Nat) (news : List Value) (hl : news.length = m * size) (hnews : ∀ j u, news[j]? = some u -> w.cell? (a.add j) = some u) (h1 : ∀ u ∈ news, u.oneCell' = true)
   (h63 : n + m <= maxLen) (hbytes : (n + m) * bytes <= 140737488355328) (hbase : base <= w.heap.size) :
   ∃ v' w', (Builtin.append_ #[t, t] ty #[v, .slice (some a) m c]).run P w = .ok v' w' /\ w'.ownsRow base e size v' (n + m) (xs ++ news) /\ w.grownBy w' v.ownBlock /\ ∀ k, v'.ownBlock = some k -> v.ownBlock = some k \/ w.heap.size <= k := by
 have mono : ∀ {w' : World} {v' : Value} {N : Nat} {ys : List Value}, w'.ownsRow w.heap.size e size v' N ys -> w'.ownsRow base e size v' N ys /\ ∀ k, v'.ownBlock = some k -> w.heap.size <= k := by
   intro w' v' N ys h
   refine ⟨⟨h.1, ?_⟩, fun k hk => (h.lt k hk).1⟩
   rcases h.2 with h2 | ⟨g, cap, cur, h2, h3, h4⟩
   · exact .inl h2
   · exact .inr ⟨g, cap, cur, h2, by omega, h4⟩
 rcases hown.2 with ⟨rfl, rfl⟩ | ⟨g, cap, cur, rfl, hb, hg, hn, hm, hs, htake⟩
 · obtain rfl : xs = [] := List.eq_nil_of_length_eq_zero (by simpa using hown.1)
   obtain ⟨v', w', r1, r2, r3, _⟩ := run_append_own (P := P) w w.heap.size t ty e i z size bytes ht hi hz hsize hby hzs hsz (.slice none 0 0) 0 [] (World.ownsRow_nil w _ e size) a m c news hl hnews h1 h63 hbytes (Nat.le_refl _)
   exact ⟨v', w', r1, (mono r2).1, r3, fun k hk => .inr ((mono r2).2 k hk)⟩
 · by_cases hroom : n + m <= cap
   · obtain ⟨w', r1, r2, r3⟩ := run_append_fits (P := P) w base t ty e i size ht hi hsize g n cap xs hown a m c news hl hnews h1 hroom
     exact ⟨_, w', r1, r2, r3, fun k hk => .inl hk⟩
   · have hcells : ∀ j u, xs[j]? = some u -> w.cell? ((⟨g, 0, none⟩ : Addr).add j) = some u := hown.cells rfl
     obtain ⟨v', w', r1, r2, r3⟩ := run_append_arg_grows (P := P) w t ty e i z size bytes ht hi hz hsize hby hzs hsz ⟨g, 0, none⟩ n cap xs hown.1 hcells a m c news hl hnews (by omega) h63 hbytes
     exact ⟨v', w', r1, (mono r2).1, ⟨r3.os, r3.tape, r3.output, r3.size, fun k hk _ => r3.block k hk (by simp)⟩, fun k hk => .inr ((mono r2).2 k hk)⟩
theorem wpList_append_row {P : Program} (w : World) {ops : Array Oper} {rest : List Oper} {o : Oper} {a : Act} {Q : Exit -> Act -> World -> Prop} (hgd : o.guard = none) (s x : Operand) (t : TypeId)
   (ho : o.op = .call { callee := .builtin .append, args := #[s, x], argTypes := #[t, t] })
   (base : Nat) (e : TypeId) (i : TypeInfo) (z : Value) (size bytes : Nat) (ht : P.underlying t = some (.slice e)) (hi : P.info? e = some i) (hz : i.zero = some z)
   (hsize : i.size = size) (hby : i.bytes = bytes) (hzs : z.cells.size = size) (hsz : 0 < size)
   (v : Value) (n : Nat) (xs : List Value) (hs : a.eval s = v) (hown : w.ownsRow base e size v n xs)
   (ad : Addr) (m c : Nat) (news : List Value) (hx : a.eval x = .slice (some ad) m c) (hl : news.length = m * size) (hnews : ∀ j u, news[j]? = some u -> w.cell? (ad.add j) = some u) (h1 : ∀ u ∈ news, u.oneCell' = true)
   (h63 : n + m <= maxLen) (hbytes : (n + m) * bytes <= 140737488355328) (hbase : base <= w.heap.size)
   (h : ∀ v' w', w'.ownsRow base e size v' (n + m) (xs ++ news) -> w.grownBy w' v.ownBlock -> (∀ k, v'.ownBlock = some k -> v.ownBlock = some k \/ w.heap.size <= k) -> wpList P ops Q rest (a.put o.dst v') w') : wpList P ops Q (o :: rest) a w := by
 refine wpList_plain hgd fun K hK => ?_
 obtain ⟨v', w', hrun, r1, r2, r3⟩ := run_append_row (P := P) w base t o.type e i z size bytes ht hi hz hsize hby hzs hsz v n xs hown ad m c news hl hnews h1 h63 hbytes hbase
 unfold Oper.wp
 simp [execOp, ho, resolve, invoke, builtin, hs, hx, hrun, Result.andThen]
 exact hK _ _ (h v' w' r1 r2 r3)
/-! ### a slice of trees of the call's own -/
def ptrV (p : Nat) : Value := .pointer (some ⟨p, 0, none⟩)
def KidsOwn (C : Ctx) (w0 w : World) (v : Value) (ks : List Tr) : Prop :=
 ∃ ps : List Nat, ps.length = ks.length /\ w.ownsRow w0.heap.size 61 1 v ks.length (ps.map ptrV) /\ ∀ (j : Nat) (t : Tr), ks[j]? = some t -> ∃ p, ps[j]? = some p /\ TrAt (fun k => Old C w0 k \/ v.ownBlock = some k) w p t
theorem kidsOwn_nil (C : Ctx) (w0 w : World) : KidsOwn C w0 w (.slice none 0 0) [] := ⟨[], rfl, World.ownsRow_nil _ _ _ _, fun j t hj => by simp at hj⟩
theorem KidsOwn.row {C : Ctx} {w0 w : World} {v : Value} {ks : List Tr} (h : KidsOwn C w0 w v ks) (hr : C.r < w0.heap.size) {k : Nat} (hk : v.ownBlock = some k) : w0.heap.size <= k /\ k ≠ C.r /\ k < w.heap.size := by
 obtain ⟨ps, h1, h2, h3⟩ := h
 have := h2.lt k hk
 omega
theorem KidsOwn.grew {C : Ctx} {w0 w w' : World} {v : Value} {ks : List Tr} (hr : C.r < w0.heap.size) (hg : Grew C w w') (h : KidsOwn C w0 w v ks) : KidsOwn C w0 w' v ks := by
 have hrow := fun k (hk : v.ownBlock = some k) => h.row hr hk
 obtain ⟨ps, h1, h2, h3⟩ := h
 refine ⟨ps, h1, h2.kept hg ?_, fun j t hj => ?_⟩
 · cases hv : v.ownBlock with
   | none => exact .inl rfl
   | some k => right; have := (hrow k hv).2.1; simp; omega
 · obtain ⟨p, hp, hT⟩ := h3 j t hj
   exact ⟨p, hp, hT.kept fun k hk hx => hg.block k hk (by simp; rintro rfl; exact hx (.inl (.inl rfl)))⟩
theorem KidsOwn.append {C : Ctx} {w0 w w' : World} {v v' : Value} {ks ts : List Tr} {ps qs : List Nat} (h1 : ps.length = ks.length) (h3 : ∀ (j : Nat) (t : Tr), ks[j]? = some t -> ∃ p, ps[j]? = some p /\ TrAt (fun k => Old C w0 k \/ v.ownBlock = some k) w p t) (hq : qs.length = ts.length)
   (hts : ∀ (j : Nat) (t : Tr), ts[j]? = some t -> ∃ p, qs[j]? = some p /\ TrAt (fun k => Old C w0 k \/ v.ownBlock = some k) w p t) {o : Obj}
   (hown : w'.ownsRow w0.heap.size 61 1 v' (ks.length + ts.length) (ps.map ptrV ++ qs.map ptrV)) (hg : (w.alloc o).grownBy w' v.ownBlock) (hv : ∀ k, v'.ownBlock = some k -> v.ownBlock = some k \/ (w.alloc o).heap.size <= k) :
   KidsOwn C w0 w' v' (ks ++ ts) := by
 have hkeep : ∀ {p : Nat} {t : Tr}, TrAt (fun k => Old C w0 k \/ v.ownBlock = some k) w p t -> TrAt (fun k => Old C w0 k \/ v'.ownBlock = some k) w' p t := by
   intro p t hT
   have hT3 := hT.bound.kept (w' := w') fun k hk hx => by
     rw [hg.block k (by simp; omega) (fun e => hx (.inl (.inr e.symm)))]
     exact (World.grownBy_alloc w o none).block k hk (by simp)
   refine hT3.mono fun k hk => ?_
   rcases hk with hk | hk
   · exact .inl (.inl hk)
   · rcases hv k hk with h | h
     · exact .inl (.inr h)
     · exact .inr (by simp at h; omega)
 refine ⟨ps ++ qs, by simp [h1, hq], by rw [List.map_append, List.length_append]; exact hown, fun j t hj => ?_⟩
 by_cases hlt : j < ks.length
 · rw [List.getElem?_append_left hlt] at hj
   obtain ⟨p, hp, hT⟩ := h3 j t hj
   exact ⟨p, by rw [List.getElem?_append_left (by omega)]; exact hp, hkeep hT⟩
 · rw [List.getElem?_append_right (by omega)] at hj
   obtain ⟨p, hp, hT⟩ := hts _ t hj
   exact ⟨p, by rw [List.getElem?_append_right (by omega), h1]; exact hp, hkeep hT⟩
theorem new1 (w : World) (p : Nat) : ∀ (j : Nat) (u : Value), [ptrV p][j]? = some u -> (w.alloc (.cells #[.pointer (some ⟨p, 0, none⟩)] 61)).cell? ((⟨w.heap.size, 0, none⟩ : Addr).add j) = some u := by
 intro j u hj
 match j, hj with
 | 0, hj => simp at hj; subst hj; simp [go_sem, Addr.add, ptrV]
 | j + 1, hj => simp at hj
theorem new2 (w : World) (p q : Nat) : ∀ (j : Nat) (u : Value), [ptrV p, ptrV q][j]? = some u -> (w.alloc (.cells #[.pointer (some ⟨p, 0, none⟩), .pointer (some ⟨q, 0, none⟩)] 61)).cell? ((⟨w.heap.size, 0, none⟩ : Addr).add j) = some u := by
 intro j u hj
 match j, hj with
 | 0, hj => simp at hj; subst hj; simp [go_sem, Addr.add, ptrV]
 | 1, hj => simp at hj; subst hj; simp [go_sem, Addr.add, ptrV]
 | j + 2, hj => simp at hj
theorem cell1 (l : List Nat) : ∀ u ∈ l.map ptrV, u.oneCell' = true := by
 intro u hu
 obtain ⟨p, _, rfl⟩ := List.mem_map.1 hu
 rfl
theorem KidsOwn.kids {C : Ctx} {w0 w : World} {v : Value} {ks : List Tr} (hr : C.r < w0.heap.size) (h : KidsOwn C w0 w v ks) : ∃ b cap, v = .slice b ks.length cap /\ KidsAt (Old C w0) w b cap ks := by
 have hrow := fun k (hk : v.ownBlock = some k) => h.row hr hk
 obtain ⟨ps, h1, h2, h3⟩ := h
 rcases h2.2 with ⟨rfl, hn⟩ | ⟨g, cap, cur, rfl, hb, hg, hn, hm, hs, htake⟩
 · have hks : ks = [] := List.eq_nil_of_length_eq_zero hn
   subst hks
   exact ⟨none, 0, rfl, kids0 _ _ _ _⟩
 · refine ⟨_, _, rfl, g, fun j => ps.getD j 0, fun _ => rfl, fun _ => by unfold Old; omega, hn, fun j t hj => ?_, fun j t hj => ?_⟩
   · obtain ⟨p, hp, _⟩ := h3 j t hj
     have := h2.cells rfl j (ptrV p) (by simp [hp])
     rw [show ((⟨g, 0, none⟩ : Addr).add j) = ⟨g, j, none⟩ from by unfold Addr.add; split <;> simp_all] at this
     rw [this]
     simp [ptrV, List.getD, hp]
   · obtain ⟨p, hp, hT⟩ := h3 j t hj
     have e : ps.getD j 0 = p := by simp [List.getD, hp]
     show TrAt (Old C w0) w (ps.getD j 0) t
     rw [e]
     exact hT.mono fun k hk => .inl hk
theorem Rd.row {C : Ctx} {i i0 : Nat} {w0 w w' : World} (h0 : Rd C i0 w0) (h : Rd C i w) {row : Option Nat} (hg : w.grownBy w' row) (hN : ∀ k, row = some k -> w0.heap.size <= k) : Rd C i w' := by
 have k1 := h0.lt
 have k2 := h0.lt0
 have k3 := h0.gtok
 have l1 := h.lt
 have l2 := h.lt0
 have same : ∀ n, n < w.heap.size -> n < w0.heap.size -> w'.heap[n]? = w.heap[n]? := fun n h1 h2 => hg.block n h1 (fun e => by have := hN n e.symm; omega)
 have c : ∀ n x, n < w.heap.size -> n < w0.heap.size -> w'.cell? ⟨n, x, none⟩ = w.cell? ⟨n, x, none⟩ := fun n x h1 h2 => World.cell?_of_block (a := ⟨n, x, none⟩) (same n h1 h2)
 have f : ∀ n x, n < w.heap.size -> n < w0.heap.size -> w'.frozen? ⟨n, x, none⟩ = w.frozen? ⟨n, x, none⟩ := fun n x h1 h2 => World.frozen?_of_block (a := ⟨n, x, none⟩) (same n h1 h2)
 have hgt : ∀ b cap g, w.cell? ⟨C.r, 0, none⟩ = some (.slice b C.l.length cap) -> (C.l ≠ [] -> b = some ⟨g, 0, none⟩) -> C.l ≠ [] -> g < w0.heap.size := by
   intro b cap g h1 h2 hne
   have h3 := h.tok _ _ _ h1 hne
   rw [h2 hne] at h3
   have : g = C.g := by simpa using h3
   have := k3 hne
   omega
 obtain ⟨⟨b, cap, g, a0, hb, hcap, ht, hg2⟩, a1, a2, af, hle, hlen, he, hp, hk0⟩ := h
 exact ⟨⟨b, cap, g, (c _ _ l1 k1).trans a0, hb, hcap, ht.of fun hne x => c _ _ (Rd.glt (i := i) ht hne) (hgt b cap g a0 hb hne), hg2⟩, (c _ _ l1 k1).trans a1, (c _ _ l1 k1).trans a2, (f _ _ l1 k1).trans af, hle, hlen, (c _ _ l2 k2).trans he, hp, fun b n cap hb => hk0 b n cap ((c _ _ l1 k1).symm.trans hb)⟩
structure StI (C : Ctx) (w0 : World) (i0 N B : Nat) (kind : Int) (name : ByteArray) (num at_ : Int) (j : Nat) (w : World) : Prop where
 rd0 : Rd C i0 w0
 rd : Rd C j w
 grew : Grew C w0 w
 six : Six w N (.int .i64 0) (.int .i64 kind) (.string name) (.int .i64 num) (.int .i64 0) (.int .i64 at_)
 lo : w0.heap.size <= N
 lt : N < w.heap.size
 big : B <= w.heap.size
section
variable {C : Ctx} {w0 w w' : World} {i0 N B j j' : Nat} {kind num at_ : Int} {name : ByteArray}
theorem StI.ne (h : StI C w0 i0 N B kind name num at_ j w) : N ≠ C.r := by have := h.rd0.lt; have := h.lo; omega
theorem StI.call (h : StI C w0 i0 N B kind name num at_ j w) (hR : Rd C j' w') (hG : Grew C w w') : StI C w0 i0 N B kind name num at_ j' w' :=
 ⟨h.rd0, hR, grown_trans h.grew hG, h.six.grown hG h.lt (by have := h.ne; simp; omega), h.lo, Nat.lt_of_lt_of_le h.lt hG.size, Nat.le_trans h.big hG.size⟩
theorem grew_row {row : Option Nat} (h : Grew C w0 w) (hg : w.grownBy w' row) (hN : ∀ k, row = some k -> w0.heap.size <= k) : Grew C w0 w' :=
 ⟨hg.os.trans h.os, hg.tape.trans h.tape, hg.output.trans h.output, Nat.le_trans h.size hg.size, fun k hk hr => (hg.block k (Nat.lt_of_lt_of_le hk h.size) (fun e => by have := hN k e.symm; omega)).trans (h.block k hk hr)⟩
theorem StI.grown {row : Option Nat} (h : StI C w0 i0 N B kind name num at_ j w) (hg : w.grownBy w' row) (hN : ∀ k, row = some k -> w0.heap.size <= k /\ k ≠ N) : StI C w0 i0 N B kind name num at_ j w' :=
 ⟨h.rd0, h.rd0.row h.rd hg (fun k hk => (hN k hk).1), grew_row h.grew hg (fun k hk => (hN k hk).1), h.six.grown hg h.lt (fun e => (hN N e.symm).2 rfl), h.lo, Nat.lt_of_lt_of_le h.lt hg.size, Nat.le_trans h.big hg.size⟩
theorem StI.alloc (h : StI C w0 i0 N B kind name num at_ j w) (o : Obj) : StI C w0 i0 N B kind name num at_ j (w.alloc o) := h.grown (World.grownBy_alloc w o none) (fun k hk => by cases hk)
theorem StI.setKind (h : StI C w0 i0 N B kind name num at_ j w) (x : Int) : StI C w0 i0 N B x name num at_ j (w.setCell ⟨N, 1, none⟩ (.int .i64 x)) := by
 have hs := grown_set w N 1 (.int .i64 x)
 obtain ⟨c0, c1, c2, c3, c4, c5, f0, f1, f2, f3, f4, f5⟩ := h.six
 exact ⟨h.rd0, h.rd0.set h.rd h.lo _ _, grew_row h.grew hs (fun k hk => by cases hk; exact h.lo), by constructor <;> simp [go_sem, c0, c1, c2, c3, c4, c5, f0, f1, f2, f3, f4, f5], h.lo, Nat.lt_of_lt_of_le h.lt hs.size, Nat.le_trans h.big hs.size⟩
theorem StI.setName (h : StI C w0 i0 N B kind name num at_ j w) (x : ByteArray) : StI C w0 i0 N B kind x num at_ j (w.setCell ⟨N, 2, none⟩ (.string x)) := by
 have hs := grown_set w N 2 (.string x)
 obtain ⟨c0, c1, c2, c3, c4, c5, f0, f1, f2, f3, f4, f5⟩ := h.six
 exact ⟨h.rd0, h.rd0.set h.rd h.lo _ _, grew_row h.grew hs (fun k hk => by cases hk; exact h.lo), by constructor <;> simp [go_sem, c0, c1, c2, c3, c4, c5, f0, f1, f2, f3, f4, f5], h.lo, Nat.lt_of_lt_of_le h.lt hs.size, Nat.le_trans h.big hs.size⟩
theorem StI.setNum (h : StI C w0 i0 N B kind name num at_ j w) (x : Int) : StI C w0 i0 N B kind name x at_ j (w.setCell ⟨N, 3, none⟩ (.int .i64 x)) := by
 have hs := grown_set w N 3 (.int .i64 x)
 obtain ⟨c0, c1, c2, c3, c4, c5, f0, f1, f2, f3, f4, f5⟩ := h.six
 exact ⟨h.rd0, h.rd0.set h.rd h.lo _ _, grew_row h.grew hs (fun k hk => by cases hk; exact h.lo), by constructor <;> simp [go_sem, c0, c1, c2, c3, c4, c5, f0, f1, f2, f3, f4, f5], h.lo, Nat.lt_of_lt_of_le h.lt hs.size, Nat.le_trans h.big hs.size⟩
end
theorem old_sz {C : Ctx} {w w1 : World} (h : w.heap.size <= w1.heap.size) : ∀ k, Old C w k -> Old C w1 k := fun k hk => hk.imp id fun h' => Nat.lt_of_lt_of_le h' h
theorem post_node {C : Ctx} {w0 wB w : World} {r : Res (List Tr)} {j : Nat} {ks : List Tr} {b : Option Addr} {cap : Nat} (n : Nd) (hr : r = .ok [.mk n ks] j) (hK : KidsAt (Old C wB) w b cap ks) (hB : w0.heap.size <= wB.heap.size) (hR : Rd C j w) (hG : Grew C w0 w) :
   PPost C w0 r (isTree C w0) (.returned (.pointer (some ⟨w.heap.size + 1, 0, none⟩))) ((w.alloc (.cells #[.int .i64 n.depth, .int .i64 n.kind, .string n.name, .int .i64 n.num, .int .i64 n.op, .int .i64 n.at_] 26)).alloc (.cells #[.int .i64 n.depth, .int .i64 n.kind, .string n.name, .int .i64 n.num, .int .i64 n.op, .int .i64 n.at_, .slice b ks.length cap] 84)) := by
 have hK' : KidsAt (Old C w0) w b cap ks := by
   obtain ⟨g, q, h1, h2, h3, h4, h5⟩ := hK
   exact ⟨g, q, h1, fun h h' => h2 h (old_sz hB _ h'), h3, h4, fun j t hj => (h5 j t hj).mono (old_sz hB)⟩
 exact ⟨_, j, hr, ⟨_, _, rfl, rfl, tr_leaf n hK' hR.lt hG.size⟩, (hR.alloc _).alloc _, grown_trans hG (grown_trans (World.grownBy_alloc _ _ _) (World.grownBy_alloc _ _ _))⟩
end Go.Proofs.YtonmcakdofbjiaaDoor
