/-
  The parts: base Mov1 base Mov2 base Mov3 base Mov4 base Mov5 base Mov6 base Fix2 base Fix3 base Mov7 base Opn1
-/
import Derived.Test.YtonmcakdofbjiaaDoorV27
import Derived.Test.YtonmcakdofbjiaaDoorV28
import Derived.Deep.Slices
import Derived.ChangeArms
import Derived.WideShapes
import Derived.SizedLaws
set_option linter.unusedVariables false
set_option linter.unusedSimpArgs false
set_option linter.unusedSectionVars false
set_option linter.unnecessarySimpa false
set_option maxRecDepth 100000
set_option maxHeartbeats 8000000
namespace Go.Proofs.YtonmcakdofbjiaaDoor
open Go.RowKit
def put6 (w : World) (g o : Nat) (n : Nd) : World := (((((w.setCell ⟨g, o, none⟩ (.int .i64 n.depth)).setCell ⟨g, o + 1, none⟩ (.int .i64 n.kind)).setCell ⟨g, o + 2, none⟩ (.string n.name)).setCell ⟨g, o + 3, none⟩ (.int .i64 n.num)).setCell ⟨g, o + 4, none⟩ (.int .i64 n.op)).setCell ⟨g, o + 5, none⟩ (.int .i64 n.at_)
theorem setCell_other (w : World) (g o : Nat) (u : Value) (b p : Nat) (h : b ≠ g \/ p ≠ o) : (w.setCell ⟨g, o, none⟩ u).cell? ⟨b, p, none⟩ = w.cell? ⟨b, p, none⟩ :=
 World.cell?_setCell_other _ _ _ _ (by simp; omega)
theorem put6_other (w : World) (g o : Nat) (n : Nd) (b p : Nat) (h : b ≠ g \/ p < o \/ o + 6 <= p) : (put6 w g o n).cell? ⟨b, p, none⟩ = w.cell? ⟨b, p, none⟩ := by
 unfold put6
 rw [setCell_other _ _ _ _ _ _ (by omega), setCell_other _ _ _ _ _ _ (by omega), setCell_other _ _ _ _ _ _ (by omega), setCell_other _ _ _ _ _ _ (by omega), setCell_other _ _ _ _ _ _ (by omega), setCell_other _ _ _ _ _ _ (by omega)]
theorem put6_in (w : World) (g o : Nat) (n : Nd) (h : ∀ k, k < 6 -> (w.cell? ⟨g, o + k, none⟩).isSome = true) : ∀ (k : Nat) (c : Value), n.cells[k]? = some c -> (put6 w g o n).cell? ⟨g, o + k, none⟩ = some c := by
 intro k c hk
 have h0 := h 0 (by omega)
 have h1 := h 1 (by omega)
 have h2 := h 2 (by omega)
 have h3 := h 3 (by omega)
 have h4 := h 4 (by omega)
 have h5 := h 5 (by omega)
 have hk6 : k < 6 := (List.getElem?_eq_some_iff.1 hk).1
 have same : ∀ (w : World) (p : Nat) (u : Value), (w.cell? ⟨g, p, none⟩).isSome = true -> (w.setCell ⟨g, p, none⟩ u).cell? ⟨g, p, none⟩ = some u := fun w p u hs => World.cell?_setCell_same' _ _ _ hs
 unfold put6
 rcases k with _ | _ | _ | _ | _ | _ | k
 · cases hk
   rw [setCell_other _ _ _ _ _ _ (by omega), setCell_other _ _ _ _ _ _ (by omega), setCell_other _ _ _ _ _ _ (by omega), setCell_other _ _ _ _ _ _ (by omega), setCell_other _ _ _ _ _ _ (by omega)]
   exact same _ _ _ h0
 · cases hk
   rw [setCell_other _ _ _ _ _ _ (by omega), setCell_other _ _ _ _ _ _ (by omega), setCell_other _ _ _ _ _ _ (by omega), setCell_other _ _ _ _ _ _ (by omega)]
   exact same _ _ _ (by rw [setCell_other _ _ _ _ _ _ (by omega)]; exact h1)
 · cases hk
   rw [setCell_other _ _ _ _ _ _ (by omega), setCell_other _ _ _ _ _ _ (by omega), setCell_other _ _ _ _ _ _ (by omega)]
   exact same _ _ _ (by rw [setCell_other _ _ _ _ _ _ (by omega), setCell_other _ _ _ _ _ _ (by omega)]; exact h2)
 · cases hk
   rw [setCell_other _ _ _ _ _ _ (by omega), setCell_other _ _ _ _ _ _ (by omega)]
   exact same _ _ _ (by rw [setCell_other _ _ _ _ _ _ (by omega), setCell_other _ _ _ _ _ _ (by omega), setCell_other _ _ _ _ _ _ (by omega)]; exact h3)
 · cases hk
   rw [setCell_other _ _ _ _ _ _ (by omega)]
   exact same _ _ _ (by rw [setCell_other _ _ _ _ _ _ (by omega), setCell_other _ _ _ _ _ _ (by omega), setCell_other _ _ _ _ _ _ (by omega), setCell_other _ _ _ _ _ _ (by omega)]; exact h4)
 · cases hk
   exact same _ _ _ (by rw [setCell_other _ _ _ _ _ _ (by omega), setCell_other _ _ _ _ _ _ (by omega), setCell_other _ _ _ _ _ _ (by omega), setCell_other _ _ _ _ _ _ (by omega), setCell_other _ _ _ _ _ _ (by omega)]; exact h5)
 · omega
theorem put6_frozen (w : World) (g o : Nat) (n : Nd) (a : Addr) : (put6 w g o n).frozen? a = w.frozen? a := by
 unfold put6
 rw [World.frozen?_setCell, World.frozen?_setCell, World.frozen?_setCell, World.frozen?_setCell, World.frozen?_setCell, World.frozen?_setCell]
theorem Kin.setCell {w0 w : World} (h : Kin w0 w) {g o : Nat} (hg : w0.heap.size <= g) (u : Value) : Kin w0 (w.setCell ⟨g, o, none⟩ u) := by
 refine ⟨?_, ?_, ?_, fun k hk => ?_⟩
 · rw [<- h.os]; rfl
 · rw [<- h.out]; rfl
 · have := h.size; simpa using this
 · rw [Below.heap_setCell _ _ _ _ (by simp; omega)]; exact h.block k hk
theorem Kin.put6 {w0 w : World} (h : Kin w0 w) {g o : Nat} (hg : w0.heap.size <= g) (n : Nd) : Kin w0 (put6 w g o n) :=
 (((((h.setCell hg _).setCell hg _).setCell hg _).setCell hg _).setCell hg _).setCell hg _
def NdsAt (w : World) (g : Nat) (l : List Nd) : Prop := ∀ (j : Nat) (n : Nd), l[j]? = some n -> ∀ (k : Nat) (c : Value), n.cells[k]? = some c -> w.cell? ⟨g, j * 6 + k, none⟩ = some c
theorem NdsAt.nodes {w : World} {g : Nat} {l : List Nd} (h : NdsAt w g l) {n cap : Nat} (hn : n = l.length) (hc : n <= cap) : NodesAt w (.slice (some ⟨g, 0, none⟩) n cap) l := by
 subst hn
 refine ⟨_, _, rfl, hc, fun _ => ⟨g, 0, rfl, fun j n hj k c hk => ?_⟩⟩
 rw [Nat.zero_add]
 exact h j n hj k c hk
theorem NdsAt.left {w : World} {g : Nat} {l m : List Nd} (h : NdsAt w g (l ++ m)) : NdsAt w g l := fun j n hj => h j n (by rw [List.getElem?_append_left (List.getElem?_eq_some_iff.1 hj).1]; exact hj)
theorem NdsAt.of_owns {w : World} {B g n cap : Nat} {l : List Nd} (h : w.ownsRow B 26 6 (.slice (some ⟨g, 0, none⟩) n cap) n (ndCells l)) : NdsAt w g l := by
 intro j x hj k c hk
 have hk6 : k < 6 := (List.getElem?_eq_some_iff.1 hk).1
 have := h.cells rfl (j * 6 + k) c ((nd_get hj k hk6).trans hk)
 rw [add_plain, Nat.zero_add] at this
 exact this
theorem NdsAt.kin {w w' : World} {g : Nat} {l : List Nd} (h : NdsAt w g l) (K : Kin w w') : NdsAt w' g l := fun j n hj k c hk => (K.cell (World.block_lt_of_cell? w _ (h j n hj k c hk))).trans (h j n hj k c hk)
theorem NdsAt.put_other {w : World} {g : Nat} {l : List Nd} (h : NdsAt w g l) (g2 o : Nat) (n : Nd) (hne : g ≠ g2) : NdsAt (Proofs.YtonmcakdofbjiaaDoor.put6 w g2 o n) g l := fun j x hj k c hk => (put6_other _ _ _ _ _ _ (.inl hne)).trans (h j x hj k c hk)
theorem NdsAt.put {w : World} {g i : Nat} {l : List Nd} (h : NdsAt w g l) (hi : i < l.length) (n : Nd) : NdsAt (Proofs.YtonmcakdofbjiaaDoor.put6 w g (i * 6) n) g (l.set i n) := by
 intro j x hj k c hk
 have hk6 : k < 6 := (List.getElem?_eq_some_iff.1 hk).1
 by_cases e : j = i
 · subst e
   rw [List.getElem?_set_self hi] at hj
   cases hj
   refine put6_in w g (j * 6) n (fun k hk => ?_) k c hk
   have hc : k < (l[j]).cells.length := hk
   rw [h j _ (List.getElem?_eq_getElem hi) k _ (List.getElem?_eq_getElem hc)]
   rfl
 · rw [List.getElem?_set_ne (Ne.symm e)] at hj
   exact (put6_other _ _ _ _ _ _ (by omega)).trans (h j x hj k c hk)
end Go.Proofs.YtonmcakdofbjiaaDoor
namespace Go.Proofs.YtonmcakdofbjiaaDoor
open Go.RowKit Go.Bsd
noncomputable def mv0 : Code := (Tryd.f3.body.getD .skip)
noncomputable def mv1 : Code := seqR mv0
noncomputable def mv2 : Code := seqR mv1
noncomputable def mv3 : Code := seqR mv2
noncomputable def mv4 : Code := seqR mv3
noncomputable def mv5 : Code := seqR mv4
noncomputable def mv6 : Code := seqR mv5
noncomputable def mv7 : Code := seqR mv6
noncomputable def mv8 : Code := seqR mv7
noncomputable def mv9 : Code := seqR mv8
noncomputable def mv10 : Code := seqR mv9
noncomputable def mv11 : Code := seqR mv10
noncomputable def mv12 : Code := seqR mv11
noncomputable def mv13 : Code := seqR mv12
noncomputable def mv14 : Code := seqR mv13
noncomputable def mv15 : Code := seqR mv14
theorem moves_other (Y : Code) (Q : Exit -> Act -> World -> Prop) (w : World) (n : Nd) (gb gr go len capr capo k : Nat) (hk : k < len) (hlen : len < 9223372036854775807) (hcr : len + 1 <= capr) (hco : len <= capo)
   (b0 : w.cell? ⟨gb, 0, none⟩ = some (.int .i64 n.depth)) (b1 : w.cell? ⟨gb, 1, none⟩ = some (.int .i64 n.kind)) (b2 : w.cell? ⟨gb, 2, none⟩ = some (.string n.name)) (b3 : w.cell? ⟨gb, 3, none⟩ = some (.int .i64 n.num)) (b4 : w.cell? ⟨gb, 4, none⟩ = some (.int .i64 n.op)) (b5 : w.cell? ⟨gb, 5, none⟩ = some (.int .i64 n.at_)) (x0 x1 x2 x3 x4 x5 : Value)
   (c0 : w.cell? ⟨go, k * 6, none⟩ = some x0) (c1 : w.cell? ⟨go, k * 6 + 1, none⟩ = some x1) (c2 : w.cell? ⟨go, k * 6 + 2, none⟩ = some x2) (c3 : w.cell? ⟨go, k * 6 + 3, none⟩ = some x3) (c4 : w.cell? ⟨go, k * 6 + 4, none⟩ = some x4) (c5 : w.cell? ⟨go, k * 6 + 5, none⟩ = some x5)
   (f0 : w.frozen? ⟨go, k * 6, none⟩ = false) (f1 : w.frozen? ⟨go, k * 6 + 1, none⟩ = false) (f2 : w.frozen? ⟨go, k * 6 + 2, none⟩ = false) (f3 : w.frozen? ⟨go, k * 6 + 3, none⟩ = false) (f4 : w.frozen? ⟨go, k * 6 + 4, none⟩ = false) (f5 : w.frozen? ⟨go, k * 6 + 5, none⟩ = false)
   (HE : Hid (∀ (t0 t1 t2 t3 t4 t9 t10 t11 t12 t15 t16 t17 t18 t19 t20 t21 t22 t23 t24 t25 t26 t27 t28 t29 t30 t31 t32 t33 t34 t35 t36 t37 t38 t39 t40 t41 t42 t43 t44 t45 t46 t47 t48 t49 t50 t51 t52 t53 t54 t55 t56 t57 t58 t59 t60 t61 t62 t63 t64 t65 t66 t67 t68 t69 t70 t71 t72 t73 t74 t75 t76 t77 t78 t79 t80 t81 t82 t83 t84 t85 t86 t87 : Value), Y.wp Tryd.prog Q { tmps := #[t0, t1, t2, t3, t4, .pointer (some ⟨gb, 0, none⟩), .bool false, .slice (some ⟨gr, 0, none⟩) (len + 1) capr, .slice (some ⟨gr, 0, none⟩) len capr, t9, t10, t11, t12, .int .i64 k, .slice (some ⟨go, 0, none⟩) len capo, t15, t16, t17, t18, t19, t20, t21, t22, t23, t24, t25, t26, t27, t28, t29, t30, t31, t32, t33, t34, t35, t36, t37, t38, t39, t40, t41, t42, t43, t44, t45, t46, t47, t48, t49, t50, t51, t52, t53, t54, t55, t56, t57, t58, t59, t60, t61, t62, t63, t64, t65, t66, t67, t68, t69, t70, t71, t72, t73, t74, t75, t76, t77, t78, t79, t80, t81, t82, t83, t84, t85, t86, t87], defers := [] } (put6 w go (k * 6) n)))
   (t0 t1 t2 t3 t4 t9 t10 t11 t12 t15 t16 t17 t18 t19 t20 t21 t22 t23 t24 t25 t26 t27 t28 t29 t30 t31 t32 t33 t34 t35 t36 t37 t38 t39 t40 t41 t42 t43 t44 t45 t46 t47 t48 t49 t50 t51 t52 t53 t54 t55 t56 t57 t58 t59 t60 t61 t62 t63 t64 t65 t66 t67 t68 t69 t70 t71 t72 t73 t74 t75 t76 t77 t78 t79 t80 t81 t82 t83 t84 t85 t86 t87 : Value) :
   (Code.seq (seqL mv10) Y).wp Tryd.prog Q { tmps := #[t0, t1, t2, t3, t4, .pointer (some ⟨gb, 0, none⟩), .bool false, .slice (some ⟨gr, 0, none⟩) (len + 1) capr, .slice (some ⟨gr, 0, none⟩) len capr, t9, t10, t11, t12, .int .i64 k, .slice (some ⟨go, 0, none⟩) len capo, t15, t16, t17, t18, t19, t20, t21, t22, t23, t24, t25, t26, t27, t28, t29, t30, t31, t32, t33, t34, t35, t36, t37, t38, t39, t40, t41, t42, t43, t44, t45, t46, t47, t48, t49, t50, t51, t52, t53, t54, t55, t56, t57, t58, t59, t60, t61, t62, t63, t64, t65, t66, t67, t68, t69, t70, t71, t72, t73, t74, t75, t76, t77, t78, t79, t80, t81, t82, t83, t84, t85, t86, t87], defers := [] } w := by
 simp only [mv10, mv9, mv8, mv7, mv6, mv5, mv4, mv3, mv2, mv1, mv0, seqL, seqR, regOps, Tryd.f3, Option.getD_some]
 go_wp2_with fail
 exact HE.out _ _ _ _ _ _ _ _ _ _ _ _ _ _ _ _ _ _ _ _ _ _ _ _ _ _ _ _ _ _ _ _ _ _ _ _ _ _ _ _ _ _ _ _ _ _ _ _ _ _ _ _ _ _ _ _ _ _ _ _ _ _ _ _ _ _ _ _ _ _ _ _ _ _ _ _ _ _ _ _ _ _
theorem moves_own (Y : Code) (Q : Exit -> Act -> World -> Prop) (w : World) (n : Nd) (gb gr go len capr capo k : Nat) (hk : k < len) (hlen : len < 9223372036854775807) (hcr : len + 1 <= capr) (hco : len <= capo)
   (b0 : w.cell? ⟨gb, 0, none⟩ = some (.int .i64 n.depth)) (b1 : w.cell? ⟨gb, 1, none⟩ = some (.int .i64 n.kind)) (b2 : w.cell? ⟨gb, 2, none⟩ = some (.string n.name)) (b3 : w.cell? ⟨gb, 3, none⟩ = some (.int .i64 n.num)) (b4 : w.cell? ⟨gb, 4, none⟩ = some (.int .i64 n.op)) (b5 : w.cell? ⟨gb, 5, none⟩ = some (.int .i64 n.at_)) (x0 x1 x2 x3 x4 x5 : Value)
   (c0 : w.cell? ⟨gr, k * 6, none⟩ = some x0) (c1 : w.cell? ⟨gr, k * 6 + 1, none⟩ = some x1) (c2 : w.cell? ⟨gr, k * 6 + 2, none⟩ = some x2) (c3 : w.cell? ⟨gr, k * 6 + 3, none⟩ = some x3) (c4 : w.cell? ⟨gr, k * 6 + 4, none⟩ = some x4) (c5 : w.cell? ⟨gr, k * 6 + 5, none⟩ = some x5)
   (f0 : w.frozen? ⟨gr, k * 6, none⟩ = false) (f1 : w.frozen? ⟨gr, k * 6 + 1, none⟩ = false) (f2 : w.frozen? ⟨gr, k * 6 + 2, none⟩ = false) (f3 : w.frozen? ⟨gr, k * 6 + 3, none⟩ = false) (f4 : w.frozen? ⟨gr, k * 6 + 4, none⟩ = false) (f5 : w.frozen? ⟨gr, k * 6 + 5, none⟩ = false)
   (HE : Hid (∀ (t0 t1 t2 t3 t4 t9 t10 t11 t12 t15 t16 t17 t18 t19 t20 t21 t22 t23 t24 t25 t26 t27 t28 t29 t30 t31 t32 t33 t34 t35 t36 t37 t38 t39 t40 t41 t42 t43 t44 t45 t46 t47 t48 t49 t50 t51 t52 t53 t54 t55 t56 t57 t58 t59 t60 t61 t62 t63 t64 t65 t66 t67 t68 t69 t70 t71 t72 t73 t74 t75 t76 t77 t78 t79 t80 t81 t82 t83 t84 t85 t86 t87 : Value), Y.wp Tryd.prog Q { tmps := #[t0, t1, t2, t3, t4, .pointer (some ⟨gb, 0, none⟩), .bool false, .slice (some ⟨gr, 0, none⟩) (len + 1) capr, .slice (some ⟨gr, 0, none⟩) len capr, t9, t10, t11, t12, .int .i64 k, .slice (some ⟨go, 0, none⟩) len capo, t15, t16, t17, t18, t19, t20, t21, t22, t23, t24, t25, t26, t27, t28, t29, t30, t31, t32, t33, t34, t35, t36, t37, t38, t39, t40, t41, t42, t43, t44, t45, t46, t47, t48, t49, t50, t51, t52, t53, t54, t55, t56, t57, t58, t59, t60, t61, t62, t63, t64, t65, t66, t67, t68, t69, t70, t71, t72, t73, t74, t75, t76, t77, t78, t79, t80, t81, t82, t83, t84, t85, t86, t87], defers := [] } (put6 w gr (k * 6) n)))
   (t0 t1 t2 t3 t4 t9 t10 t11 t12 t15 t16 t17 t18 t19 t20 t21 t22 t23 t24 t25 t26 t27 t28 t29 t30 t31 t32 t33 t34 t35 t36 t37 t38 t39 t40 t41 t42 t43 t44 t45 t46 t47 t48 t49 t50 t51 t52 t53 t54 t55 t56 t57 t58 t59 t60 t61 t62 t63 t64 t65 t66 t67 t68 t69 t70 t71 t72 t73 t74 t75 t76 t77 t78 t79 t80 t81 t82 t83 t84 t85 t86 t87 : Value) :
   (Code.seq (seqL mv11) Y).wp Tryd.prog Q { tmps := #[t0, t1, t2, t3, t4, .pointer (some ⟨gb, 0, none⟩), .bool false, .slice (some ⟨gr, 0, none⟩) (len + 1) capr, .slice (some ⟨gr, 0, none⟩) len capr, t9, t10, t11, t12, .int .i64 k, .slice (some ⟨go, 0, none⟩) len capo, t15, t16, t17, t18, t19, t20, t21, t22, t23, t24, t25, t26, t27, t28, t29, t30, t31, t32, t33, t34, t35, t36, t37, t38, t39, t40, t41, t42, t43, t44, t45, t46, t47, t48, t49, t50, t51, t52, t53, t54, t55, t56, t57, t58, t59, t60, t61, t62, t63, t64, t65, t66, t67, t68, t69, t70, t71, t72, t73, t74, t75, t76, t77, t78, t79, t80, t81, t82, t83, t84, t85, t86, t87], defers := [] } w := by
 simp only [mv11, mv10, mv9, mv8, mv7, mv6, mv5, mv4, mv3, mv2, mv1, mv0, seqL, seqR, regOps, Tryd.f3, Option.getD_some]
 go_wp2_with fail
 exact HE.out _ _ _ _ _ _ _ _ _ _ _ _ _ _ _ _ _ _ _ _ _ _ _ _ _ _ _ _ _ _ _ _ _ _ _ _ _ _ _ _ _ _ _ _ _ _ _ _ _ _ _ _ _ _ _ _ _ _ _ _ _ _ _ _ _ _ _ _ _ _ _ _ _ _ _ _ _ _ _ _ _ _
end Go.Proofs.YtonmcakdofbjiaaDoor
namespace Go.Proofs.YtonmcakdofbjiaaDoor
open Go.RowKit Go.Bsd
def NdOk (n : Nd) : Prop := n.name.size <= 140737488355328 /\ -9223372036854775808 <= n.depth /\ n.depth <= 9223372036854775807
theorem moves_end (w0 w : World) (kw : Kin w0 w) (l : List Nd) (hl : ∀ n ∈ l, NdOk n) (hlen : l.length < 9223372036854775807) (gr go capr capo : Nat) (hcr : l.length + 1 <= capr) (hco : l.length <= capo)
   (hr : NdsAt w gr (l ++ [roomNd])) (ho : NdsAt w go l)
   (t0 t1 t2 t3 t4 t5 t9 t10 t11 t12 t13 t15 t16 t17 t18 t19 t20 t21 t22 t23 t24 t25 t26 t27 t28 t29 t30 t31 t32 t33 t34 t35 t36 t37 t38 t39 t40 t41 t42 t43 t44 t45 t46 t47 t48 t49 t50 t51 t52 t53 t54 t55 t56 t57 t58 t59 t60 t61 t62 t63 t64 t65 t66 t67 t68 t69 t70 t71 t72 t73 t74 t75 t76 t77 t78 t79 t80 t81 t82 t83 t84 t85 t86 t87 : Value) :
   mv12.wp Tryd.prog (bodyPost Tryd.prog Tryd.f3 (TrueP w0)) { tmps := #[t0, t1, t2, t3, t4, t5, .bool false, .slice (some ⟨gr, 0, none⟩) (l.length + 1) capr, .slice (some ⟨gr, 0, none⟩) l.length capr, t9, t10, t11, t12, t13, .slice (some ⟨go, 0, none⟩) l.length capo, t15, t16, t17, t18, t19, t20, t21, t22, t23, t24, t25, t26, t27, t28, t29, t30, t31, t32, t33, t34, t35, t36, t37, t38, t39, t40, t41, t42, t43, t44, t45, t46, t47, t48, t49, t50, t51, t52, t53, t54, t55, t56, t57, t58, t59, t60, t61, t62, t63, t64, t65, t66, t67, t68, t69, t70, t71, t72, t73, t74, t75, t76, t77, t78, t79, t80, t81, t82, t83, t84, t85, t86, t87], defers := [] } w := by
 have HS : Hid (∀ w', Kin w w' -> Calls Tryd.prog 6 #[.slice (some ⟨gr, 0, none⟩) l.length capr] w' fun e w'' => e = .returned (.tuple #[.int .i64 (rshapeF l).1, .int .i64 (rshapeF l).2]) /\ Kin w w'') := Lib.hid (fun w' K => (shape_any l hl (by omega) _ w' ((hr.left.kin K).nodes rfl (by omega))).mono fun e w'' h => by rw [shape_same l (fun n hn => (hl n hn).2)] at h; exact ⟨h.1, K.trans h.2⟩)
 have HR : Hid (∀ w', Kin w w' -> Calls Tryd.prog 7 #[.slice (some ⟨go, 0, none⟩) l.length capo] w' fun e w'' => e = .returned (.tuple #[.int .i64 (rshapeF l).1, .int .i64 (rshapeF l).2]) /\ Kin w w'') := Lib.hid (fun w' K => (rshape_any l (fun n hn => (hl n hn).1) (by omega) _ w' ((ho.kin K).nodes rfl hco)).mono fun e w'' h => ⟨h.1, K.trans h.2⟩)
 have HW : Hid (∀ w', Kin w w' -> Calls Tryd.prog 8 #[.slice (some ⟨gr, 0, none⟩) (l.length + 1) capr, .slice (some ⟨go, 0, none⟩) l.length capo] w' fun e w'' => e = .returned (.bool true) /\ Kin w w'') := Lib.hid (fun w' K => (whole_any l hlen gr capr _ w' ((hr.kin K).nodes (by simp) (by simpa using hcr)) ((ho.kin K).nodes rfl hco)).mono fun e w'' h => ⟨h.1, K.trans h.2⟩)
 have KW := Lib.hid kw
 clear kw hr ho hl
 generalize (rshapeF l).1 = x at HS HR
 generalize (rshapeF l).2 = y at HS HR
 have K0 := Kin.refl w
 simp only [mv12, mv11, mv10, mv9, mv8, mv7, mv6, mv5, mv4, mv3, mv2, mv1, mv0, seqL, seqR, regOps, Tryd.f3, Option.getD_some]
 go_wp2_with (first | (go_at_call 6; with_reducible refine (HS.out _ K0).mono ?_; rintro e w1 ⟨rfl, K1⟩) | (go_at_call 7; with_reducible refine (HR.out _ K1).mono ?_; rintro e w2 ⟨rfl, K2⟩) | (go_at_call 8; with_reducible refine (HW.out _ K2).mono ?_; rintro e w3 ⟨rfl, K3⟩))
 go_ret
 exact ⟨rfl, KW.out.trans K3⟩
end Go.Proofs.YtonmcakdofbjiaaDoor
namespace Go.Proofs.YtonmcakdofbjiaaDoor
open Go.RowKit Go.Bsd
theorem moves_copy (Y : Code) (Q : Exit -> Act -> World -> Prop) (w : World) (l : List Nd) (hl0 : 0 < l.length) (hsz : (l.length + 1) * 56 <= 140737488355328) (at_ : Int) (a : Addr) (capv : Nat)
   (hcells : ∀ (j : Nat) (u : Value), (ndCells l)[j]? = some u -> w.cell? (a.add j) = some u)
   (t2 t3 t4 t5 t6 t7 t8 t9 t10 t11 t12 t13 t14 t15 t16 t17 t18 t19 t20 t21 t22 t23 t24 t25 t26 t27 t28 t29 t30 t31 t32 t33 t34 t35 t36 t37 t38 t39 t40 t41 t42 t43 t44 t45 t46 t47 t48 t49 t50 t51 t52 t53 t54 t55 t56 t57 t58 t59 t60 t61 t62 t63 t64 t65 t66 t67 t68 t69 t70 t71 t72 t73 t74 t75 t76 t77 t78 t79 t80 t81 t82 t83 t84 t85 t86 t87 : Value)
   (HE : Hid (∀ (k go capo : Nat) (w1 : World), k < l.length -> w1.ownsRow w.heap.size 26 6 (.slice (some ⟨go, 0, none⟩) l.length capo) l.length (ndCells l) -> Kin w w1 -> ∀ (t2 t3 t4 t9 t10 t11 t12 t15 t16 t17 t18 t19 t20 t21 t22 t23 t24 t25 t26 t27 t28 t29 t30 t31 t32 t33 t34 t35 t36 t37 t38 t39 t40 t41 t42 t43 t44 t45 t46 t47 t48 t49 t50 t51 t52 t53 t54 t55 t56 t57 t58 t59 t60 t61 t62 t63 t64 t65 t66 t67 t68 t69 t70 t71 t72 t73 t74 t75 t76 t77 t78 t79 t80 t81 t82 t83 t84 t85 t86 t87 : Value), Y.wp Tryd.prog Q { tmps := #[.slice (some a) l.length capv, .int .i64 at_, t2, t3, t4, t5, t6, t7, t8, t9, t10, t11, t12, .int .i64 k, .slice (some ⟨go, 0, none⟩) l.length capo, t15, t16, t17, t18, t19, t20, t21, t22, t23, t24, t25, t26, t27, t28, t29, t30, t31, t32, t33, t34, t35, t36, t37, t38, t39, t40, t41, t42, t43, t44, t45, t46, t47, t48, t49, t50, t51, t52, t53, t54, t55, t56, t57, t58, t59, t60, t61, t62, t63, t64, t65, t66, t67, t68, t69, t70, t71, t72, t73, t74, t75, t76, t77, t78, t79, t80, t81, t82, t83, t84, t85, t86, t87], defers := [] } w1)) :
   (Code.seq (seqL mv8) (.seq (seqL mv9) Y)).wp Tryd.prog Q { tmps := #[.slice (some a) l.length capv, .int .i64 at_, t2, t3, t4, t5, t6, t7, t8, t9, t10, t11, t12, t13, t14, t15, t16, t17, t18, t19, t20, t21, t22, t23, t24, t25, t26, t27, t28, t29, t30, t31, t32, t33, t34, t35, t36, t37, t38, t39, t40, t41, t42, t43, t44, t45, t46, t47, t48, t49, t50, t51, t52, t53, t54, t55, t56, t57, t58, t59, t60, t61, t62, t63, t64, t65, t66, t67, t68, t69, t70, t71, t72, t73, t74, t75, t76, t77, t78, t79, t80, t81, t82, t83, t84, t85, t86, t87], defers := [] } w := by
 obtain ⟨ti, hi, hz0, hz1, hz2⟩ := info_parts info50
 have HRS : Hid (∀ w0, Calls Tryd.prog 9 #[.int .i64 at_, .int .i64 l.length] w0 fun e w' => (∃ k : Nat, k < l.length /\ e = .returned (.int .i64 k)) /\ w' = w0) := Lib.hid (fun w0 => rest_any at_ l.length hl0 (by omega) w0)
 have HL0 := Lib.hid hl0
 have HSZ := Lib.hid hsz
 have HC := Lib.hid hcells
 clear hl0 hsz hcells
 simp only [mv9, mv8, mv7, mv6, mv5, mv4, mv3, mv2, mv1, mv0, seqL, seqR, regOps, Tryd.f3, Option.getD_some]
 go_wp2_with (first | (go_at_call 9; with_reducible refine (HRS.out _).mono ?_; rintro e w' ⟨⟨k, hk0, rfl⟩, he⟩; obtain rfl := he.symm) | (at_builtin; refine wpList_append_own _ rfl (.tmp 54) (.tmp 55) 22 rfl w.heap.size 26 ti _ 6 56 Tryd.underlying22 hi hz0 hz1 hz2 rfl (by decide) (.slice (some ⟨w.heap.size, 0, none⟩) 0 0) 0 [] rfl (World.ownsRow_lit w #[] 0 (Nat.le_refl _) (by unfold maxLen; omega) rfl) a l.length capv (ndCells l) rfl (ndCells_len l) (fun j u hu => (World.cell?_of_block (heap_alloc_old w _ (World.block_lt_of_cell? w _ (HC.out j u hu)))).trans (HC.out j u hu)) (ndCells_one l) (by have := HSZ.out; unfold maxLen; omega) (by have := HSZ.out; omega) (by simp) ?_; intro v1 w1 hown1 hgrow1 _; rw [Nat.zero_add, List.nil_append] at hown1))
 have K1 : Kin w w1 := ((Kin.refl w).alloc _).grownK hgrow1 (fun kk hkk => by cases hkk; exact Nat.le_refl _)
 obtain ⟨go, capo, rfl⟩ : ∃ go capo, v1 = .slice (some ⟨go, 0, none⟩) l.length capo := by
   rcases hown1.2 with ⟨_, h0⟩ | ⟨g, cap, _, hv, _⟩
   · have := HL0.out; omega
   · exact ⟨g, cap, hv⟩
 exact HE.out k go capo w1 hk0 hown1 K1 _ _ _ _ _ _ _ _ _ _ _ _ _ _ _ _ _ _ _ _ _ _ _ _ _ _ _ _ _ _ _ _ _ _ _ _ _ _ _ _ _ _ _ _ _ _ _ _ _ _ _ _ _ _ _ _ _ _ _ _ _ _ _ _ _ _ _ _ _ _ _ _ _ _ _ _ _ _ _ _
end Go.Proofs.YtonmcakdofbjiaaDoor
namespace Go.Proofs.YtonmcakdofbjiaaDoor
open Go.RowKit Go.Bsd
theorem moves_start (Y : Code) (w0 w : World) (kw : Kin w0 w) (l : List Nd) (hl : ∀ n ∈ l, NdOk n) (hsz : (l.length + 1) * 56 <= 140737488355328) (b : Option Addr) (capv : Nat) (hv : NodesAt w (.slice b l.length capv) l) (hs : InSlice (.slice b l.length capv))
   (t1 t2 t3 t4 t5 t7 t8 t9 t10 t11 t12 t13 t14 t15 t16 t17 t18 t19 t20 t21 t22 t23 t24 t25 t26 t27 t28 t29 t30 t31 t32 t33 t34 t35 t36 t37 t38 t39 t40 t41 t42 t43 t44 t45 t46 t47 t48 t49 t50 t51 t52 t53 t54 t55 t56 t57 t58 t59 t60 t61 t62 t63 t64 t65 t66 t67 t68 t69 t70 t71 t72 t73 t74 t75 t76 t77 t78 t79 t80 t81 t82 t83 t84 t85 t86 t87 : Value)
   (HE : Hid (∀ (gr capr : Nat) (w1 : World), 0 < l.length -> l.length + 1 <= capr -> w.heap.size <= gr -> Kin w w1 -> (∃ w2, Kin w w2 /\ Kin w2 w1 /\ w2.ownsRow w.heap.size 26 6 (.slice (some ⟨gr, 0, none⟩) (l.length + 1) capr) (l.length + 1) (ndCells (l ++ [roomNd]))) -> ∀ (t3 t4 t9 t10 t11 t12 t13 t14 t15 t16 t17 t18 t19 t20 t21 t22 t23 t24 t25 t26 t27 t28 t29 t30 t31 t32 t33 t34 t35 t36 t37 t38 t39 t40 t41 t42 t43 t44 t45 t46 t47 t48 t49 t50 t51 t52 t53 t54 t55 t56 t57 t58 t59 t60 t61 t62 t63 t64 t65 t66 t67 t68 t69 t70 t71 t72 t73 t74 t75 t76 t77 t78 t79 t80 t81 t82 t83 t84 t85 t86 t87 : Value), Y.wp Tryd.prog (bodyPost Tryd.prog Tryd.f3 (TrueP w0)) { tmps := #[.slice b l.length capv, t1, t2, t3, t4, t5, .bool false, .slice (some ⟨gr, 0, none⟩) (l.length + 1) capr, .slice (some ⟨gr, 0, none⟩) l.length capr, t9, t10, t11, t12, t13, t14, t15, t16, t17, t18, t19, t20, t21, t22, t23, t24, t25, t26, t27, t28, t29, t30, t31, t32, t33, t34, t35, t36, t37, t38, t39, t40, t41, t42, t43, t44, t45, t46, t47, t48, t49, t50, t51, t52, t53, t54, t55, t56, t57, t58, t59, t60, t61, t62, t63, t64, t65, t66, t67, t68, t69, t70, t71, t72, t73, t74, t75, t76, t77, t78, t79, t80, t81, t82, t83, t84, t85, t86, t87], defers := [] } w1)) :
   (Code.seq (seqL mv2) (.seq (seqL mv3) (.seq (seqL mv4) (.seq (seqL mv5) (.seq (seqL mv6) (.seq (seqL mv7) Y)))))).wp Tryd.prog (bodyPost Tryd.prog Tryd.f3 (TrueP w0)) { tmps := #[.slice b l.length capv, t1, t2, t3, t4, t5, .bool false, t7, t8, t9, t10, t11, t12, t13, t14, t15, t16, t17, t18, t19, t20, t21, t22, t23, t24, t25, t26, t27, t28, t29, t30, t31, t32, t33, t34, t35, t36, t37, t38, t39, t40, t41, t42, t43, t44, t45, t46, t47, t48, t49, t50, t51, t52, t53, t54, t55, t56, t57, t58, t59, t60, t61, t62, t63, t64, t65, t66, t67, t68, t69, t70, t71, t72, t73, t74, t75, t76, t77, t78, t79, t80, t81, t82, t83, t84, t85, t86, t87], defers := [] } w := by
 have hlen : l.length < 9223372036854775807 := by omega
 have HLT : Hid (Calls Tryd.prog 5 #[.slice b l.length capv] w fun e w' => ∃ gr capr, e = .returned (.slice (some ⟨gr, 0, none⟩) (l.length + 1) capr) /\ l.length + 1 <= capr /\ w.heap.size <= gr /\ w'.ownsRow w.heap.size 26 6 (.slice (some ⟨gr, 0, none⟩) (l.length + 1) capr) (l.length + 1) (ndCells (l ++ [roomNd])) /\ Kin w w') := Lib.hid ((lent_any l hsz _ w hv hs).mono fun e w' h => by
   obtain ⟨v', rfl, hown, K⟩ := h
   rw [List.length_append] at hown
   rcases hown.2 with ⟨_, h0⟩ | ⟨g, cap, cur, rfl, hg, _, hcap, _⟩
   · simp at h0
   · exact ⟨g, cap, rfl, hcap, hg, hown, K⟩)
 have HS : Hid (∀ gr capr w1, l.length + 1 <= capr -> NdsAt w1 gr (l ++ [roomNd]) -> Calls Tryd.prog 6 #[.slice (some ⟨gr, 0, none⟩) l.length capr] w1 fun e w'' => e = .returned (.tuple #[.int .i64 (rshapeF l).1, .int .i64 (rshapeF l).2]) /\ Kin w1 w'') := Lib.hid (fun gr capr w1 hc hr => (shape_any l hl (by omega) _ w1 (hr.left.nodes rfl (by omega))).mono fun e w'' h => by rw [shape_same l (fun n hn => (hl n hn).2)] at h; exact h)
 have HR : Hid (∀ w', Kin w w' -> Calls Tryd.prog 7 #[.slice b l.length capv] w' fun e w'' => e = .returned (.tuple #[.int .i64 (rshapeF l).1, .int .i64 (rshapeF l).2]) /\ Kin w' w'') := Lib.hid (fun w' K => rshape_any l (fun n hn => (hl n hn).1) (by omega) _ w' (hv.kin K))
 have HW : Hid (∀ gr capr w', Kin w w' -> l.length + 1 <= capr -> NdsAt w' gr (l ++ [roomNd]) -> Calls Tryd.prog 8 #[.slice (some ⟨gr, 0, none⟩) (l.length + 1) capr, .slice b l.length capv] w' fun e w'' => e = .returned (.bool true) /\ Kin w' w'') := Lib.hid (fun gr capr w' K hc hr => whole_any l hlen gr capr _ w' (hr.nodes (by simp) (by simpa using hc)) (hv.kin K))
 have KW := Lib.hid kw
 clear kw hv hl hs
 generalize (rshapeF l).1 = x at HS HR
 generalize (rshapeF l).2 = y at HS HR
 have hd : ((l.length : Int) == 0) = decide (l.length = 0) := by
   by_cases e : l.length = 0 <;> simp [e]
 by_cases h0 : l.length = 0
 · rw [decide_eq_true h0] at hd
   have H0 := Lib.hid h0
   clear h0
   simp only [mv7, mv6, mv5, mv4, mv3, mv2, mv1, mv0, seqL, seqR, regOps, Tryd.f3, Option.getD_some]
   go_wp2_with (first | (go_at_call 5; with_reducible refine HLT.out.mono ?_; rintro e w1 ⟨gr, capr, rfl, hcapr, hgr, hown, K1⟩; have hcapr2 : l.length <= capr := (by omega); have HO := Lib.hid hown; have HN := Lib.hid (NdsAt.of_owns hown); have HGR := Lib.hid hgr; clear hown hgr) | (go_at_call 6; with_reducible refine (HS.out gr capr _ hcapr HN.out).mono ?_; rintro e w2 ⟨rfl, K2⟩) | (go_at_call 7; with_reducible refine (HR.out _ (K1.trans K2)).mono ?_; rintro e w3 ⟨rfl, K3⟩) | (go_at_call 8; with_reducible refine (HW.out gr capr _ ((K1.trans K2).trans K3) hcapr (HN.out.kin (K2.trans K3))).mono ?_; rintro e w4 ⟨rfl, K4⟩))
   go_ret
   exact ⟨rfl, KW.out.trans (((K1.trans K2).trans K3).trans K4)⟩
 · rw [decide_eq_false h0] at hd
   have H0 := Lib.hid h0
   clear h0
   simp only [mv7, mv6, mv5, mv4, mv3, mv2, mv1, mv0, seqL, seqR, regOps, Tryd.f3, Option.getD_some]
   go_wp2_with (first | (go_at_call 5; with_reducible refine HLT.out.mono ?_; rintro e w1 ⟨gr, capr, rfl, hcapr, hgr, hown, K1⟩; have hcapr2 : l.length <= capr := (by omega); have HO := Lib.hid hown; have HN := Lib.hid (NdsAt.of_owns hown); have HGR := Lib.hid hgr; clear hown hgr) | (go_at_call 6; with_reducible refine (HS.out gr capr _ hcapr HN.out).mono ?_; rintro e w2 ⟨rfl, K2⟩) | (go_at_call 7; with_reducible refine (HR.out _ (K1.trans K2)).mono ?_; rintro e w3 ⟨rfl, K3⟩) | (go_at_call 8; with_reducible refine (HW.out gr capr _ ((K1.trans K2).trans K3) hcapr (HN.out.kin (K2.trans K3))).mono ?_; rintro e w4 ⟨rfl, K4⟩))
   exact HE.out gr capr w4 (by have := H0.out; omega) hcapr HGR.out (((K1.trans K2).trans K3).trans K4) ⟨w1, K1, (K2.trans K3).trans K4, HO.out⟩ _ _ _ _ _ _ _ _ _ _ _ _ _ _ _ _ _ _ _ _ _ _ _ _ _ _ _ _ _ _ _ _ _ _ _ _ _ _ _ _ _ _ _ _ _ _ _ _ _ _ _ _ _ _ _ _ _ _ _ _ _ _ _ _ _ _ _ _ _ _ _ _ _ _ _ _ _ _ _ _ _
end Go.Proofs.YtonmcakdofbjiaaDoor
namespace Go.Proofs.YtonmcakdofbjiaaDoor
open Go.RowKit Go.Bsd
theorem moves_lone (w0 w : World) (kw : Kin w0 w) (l : List Nd) (hl : ∀ n ∈ l, NdOk n) (hsz : (l.length + 1) * 56 <= 140737488355328) (b : Option Addr) (capv : Nat) (hv : NodesAt w (.slice b l.length capv) l) (hs : InSlice (.slice b l.length capv)) (n : Nd) (hn : NdOk n) (at_ : Int) (gb : Nat) (hgb : gb < w.heap.size)
   (b0 : w.cell? ⟨gb, 0, none⟩ = some (.int .i64 n.depth)) (b1 : w.cell? ⟨gb, 1, none⟩ = some (.int .i64 n.kind)) (b2 : w.cell? ⟨gb, 2, none⟩ = some (.string n.name)) (b3 : w.cell? ⟨gb, 3, none⟩ = some (.int .i64 n.num)) (b4 : w.cell? ⟨gb, 4, none⟩ = some (.int .i64 n.op)) (b5 : w.cell? ⟨gb, 5, none⟩ = some (.int .i64 n.at_))
   (t2 t3 t4 t7 t8 t9 t10 t11 t12 t13 t14 t15 t16 t17 t18 t19 t20 t21 t22 t23 t24 t25 t26 t27 t28 t29 t30 t31 t32 t33 t34 t35 t36 t37 t38 t39 t40 t41 t42 t43 t44 t45 t46 t47 t48 t49 t50 t51 t52 t53 t54 t55 t56 t57 t58 t59 t60 t61 t62 t63 t64 t65 t66 t67 t68 t69 t70 t71 t72 t73 t74 t75 t76 t77 t78 t79 t80 t81 t82 t83 t84 t85 t86 t87 : Value) :
   mv2.wp Tryd.prog (bodyPost Tryd.prog Tryd.f3 (TrueP w0)) { tmps := #[.slice b l.length capv, .int .i64 at_, t2, t3, t4, .pointer (some ⟨gb, 0, none⟩), .bool false, t7, t8, t9, t10, t11, t12, t13, t14, t15, t16, t17, t18, t19, t20, t21, t22, t23, t24, t25, t26, t27, t28, t29, t30, t31, t32, t33, t34, t35, t36, t37, t38, t39, t40, t41, t42, t43, t44, t45, t46, t47, t48, t49, t50, t51, t52, t53, t54, t55, t56, t57, t58, t59, t60, t61, t62, t63, t64, t65, t66, t67, t68, t69, t70, t71, t72, t73, t74, t75, t76, t77, t78, t79, t80, t81, t82, t83, t84, t85, t86, t87], defers := [] } w := by
 have e2 : mv2 = Code.seq (seqL mv2) (.seq (seqL mv3) (.seq (seqL mv4) (.seq (seqL mv5) (.seq (seqL mv6) (.seq (seqL mv7) mv8))))) := rfl
 rw [e2]
 refine moves_start mv8 w0 w kw l hl hsz b capv hv hs (.int .i64 at_) t2 t3 t4 (.pointer (some ⟨gb, 0, none⟩)) t7 t8 t9 t10 t11 t12 t13 t14 t15 t16 t17 t18 t19 t20 t21 t22 t23 t24 t25 t26 t27 t28 t29 t30 t31 t32 t33 t34 t35 t36 t37 t38 t39 t40 t41 t42 t43 t44 t45 t46 t47 t48 t49 t50 t51 t52 t53 t54 t55 t56 t57 t58 t59 t60 t61 t62 t63 t64 t65 t66 t67 t68 t69 t70 t71 t72 t73 t74 t75 t76 t77 t78 t79 t80 t81 t82 t83 t84 t85 t86 t87 (Lib.hid ?_)
 rintro gr capr w1 hl0 hcr hgr K1 ⟨w2, K2, K21, hown⟩ s0 s1 s2 s3 s4 s5 s6 s7 s8 s9 s10 s11 s12 s13 s14 s15 s16 s17 s18 s19 s20 s21 s22 s23 s24 s25 s26 s27 s28 s29 s30 s31 s32 s33 s34 s35 s36 s37 s38 s39 s40 s41 s42 s43 s44 s45 s46 s47 s48 s49 s50 s51 s52 s53 s54 s55 s56 s57 s58 s59 s60 s61 s62 s63 s64 s65 s66 s67 s68 s69 s70 s71 s72 s73 s74 s75 s76 s77 s78 s79 s80
 have hlen : l.length < 9223372036854775807 := by omega
 obtain ⟨gv, off, rfl, hc⟩ := hv.at (by rintro rfl; simp at hl0)
 have e8 : mv8 = Code.seq (seqL mv8) (.seq (seqL mv9) mv10) := rfl
 rw [e8]
 refine moves_copy mv10 _ w1 l hl0 hsz at_ ⟨gv, off, none⟩ capv (flat_cells fun j x hj k c hk => (K1.cell (World.block_lt_of_cell? w _ (hc j x hj k c hk))).trans (hc j x hj k c hk)) t2 s0 s1 (.pointer (some ⟨gb, 0, none⟩)) (.bool false) (.slice (some ⟨gr, 0, none⟩) (l.length + 1) capr) (.slice (some ⟨gr, 0, none⟩) l.length capr) s2 s3 s4 s5 s6 s7 s8 s9 s10 s11 s12 s13 s14 s15 s16 s17 s18 s19 s20 s21 s22 s23 s24 s25 s26 s27 s28 s29 s30 s31 s32 s33 s34 s35 s36 s37 s38 s39 s40 s41 s42 s43 s44 s45 s46 s47 s48 s49 s50 s51 s52 s53 s54 s55 s56 s57 s58 s59 s60 s61 s62 s63 s64 s65 s66 s67 s68 s69 s70 s71 s72 s73 s74 s75 s76 s77 s78 s79 s80 (Lib.hid ?_)
 intro k go capo w3 hk hown3 K3 u0 u1 u2 u3 u4 u5 u6 u7 u8 u9 u10 u11 u12 u13 u14 u15 u16 u17 u18 u19 u20 u21 u22 u23 u24 u25 u26 u27 u28 u29 u30 u31 u32 u33 u34 u35 u36 u37 u38 u39 u40 u41 u42 u43 u44 u45 u46 u47 u48 u49 u50 u51 u52 u53 u54 u55 u56 u57 u58 u59 u60 u61 u62 u63 u64 u65 u66 u67 u68 u69 u70 u71 u72 u73 u74 u75 u76 u77 u78 u79
 have hco : l.length <= capo := by
   rcases hown3.2 with ⟨h0, _⟩ | ⟨g, cap, cur, hv', _, _, hcap, _⟩
   · cases h0
   · simp only [Value.slice.injEq] at hv'
     omega
 have hgr2 := (hown.lt gr rfl).2
 have hgo := hown3.lt go rfl
 have hne : gr ≠ go := by have := K21.size; omega
 have hne2 : gb ≠ go := by have := K1.size; omega
 have hne3 : gb ≠ gr := by omega
 have hbox : ∀ (j : Nat) (c : Value), w.cell? ⟨gb, j, none⟩ = some c -> w3.cell? ⟨gb, j, none⟩ = some c := fun j c h => ((K1.trans K3).cell hgb).trans h
 have hother := NdsAt.of_owns hown3
 have hroom : NdsAt w3 gr (l ++ [roomNd]) := ((NdsAt.of_owns hown).kin K21).kin K3
 have hk2 : l[k]? = some l[k] := List.getElem?_eq_getElem hk
 have hk3 : (l ++ [roomNd])[k]? = some l[k] := by rw [List.getElem?_append_left hk]; exact hk2
 have hfr : ∀ j, w3.frozen? ⟨gr, j, none⟩ = false := fun j => (World.frozen?_of_block (a := ⟨gr, j, none⟩) ((K21.trans K3).block gr hgr2)).trans (hown.frozenAt j)
 have e10 : mv10 = Code.seq (seqL mv10) mv11 := rfl
 rw [e10]
 refine moves_other mv11 _ w3 n gb gr go l.length capr capo k hk hlen hcr hco (hbox _ _ b0) (hbox _ _ b1) (hbox _ _ b2) (hbox _ _ b3) (hbox _ _ b4) (hbox _ _ b5) _ _ _ _ _ _ (hother k _ hk2 0 _ rfl) (hother k _ hk2 1 _ rfl) (hother k _ hk2 2 _ rfl) (hother k _ hk2 3 _ rfl) (hother k _ hk2 4 _ rfl) (hother k _ hk2 5 _ rfl) (hown3.frozenAt _) (hown3.frozenAt _) (hown3.frozenAt _) (hown3.frozenAt _) (hown3.frozenAt _) (hown3.frozenAt _) (Lib.hid ?_) (.slice (some ⟨gv, off, none⟩) l.length capv) (.int .i64 at_) u0 u1 u2 u3 u4 u5 u6 u7 u8 u9 u10 u11 u12 u13 u14 u15 u16 u17 u18 u19 u20 u21 u22 u23 u24 u25 u26 u27 u28 u29 u30 u31 u32 u33 u34 u35 u36 u37 u38 u39 u40 u41 u42 u43 u44 u45 u46 u47 u48 u49 u50 u51 u52 u53 u54 u55 u56 u57 u58 u59 u60 u61 u62 u63 u64 u65 u66 u67 u68 u69 u70 u71 u72 u73 u74 u75 u76 u77 u78 u79
 intro v0 v1 v2 v3 v4 v5 v6 v7 v8 v9 v10 v11 v12 v13 v14 v15 v16 v17 v18 v19 v20 v21 v22 v23 v24 v25 v26 v27 v28 v29 v30 v31 v32 v33 v34 v35 v36 v37 v38 v39 v40 v41 v42 v43 v44 v45 v46 v47 v48 v49 v50 v51 v52 v53 v54 v55 v56 v57 v58 v59 v60 v61 v62 v63 v64 v65 v66 v67 v68 v69 v70 v71 v72 v73 v74 v75 v76 v77 v78 v79 v80 v81
 have hbox2 : ∀ (j : Nat) (c : Value), w.cell? ⟨gb, j, none⟩ = some c -> (put6 w3 go (k * 6) n).cell? ⟨gb, j, none⟩ = some c := fun j c h => (put6_other _ _ _ _ _ _ (.inl hne2)).trans (hbox j c h)
 have hroom2 : NdsAt (put6 w3 go (k * 6) n) gr (l ++ [roomNd]) := hroom.put_other go (k * 6) n hne
 have hfr2 : ∀ j, (put6 w3 go (k * 6) n).frozen? ⟨gr, j, none⟩ = false := fun j => (put6_frozen _ _ _ _ _).trans (hfr j)
 have e11 : mv11 = Code.seq (seqL mv11) mv12 := rfl
 rw [e11]
 refine moves_own mv12 _ (put6 w3 go (k * 6) n) n gb gr go l.length capr capo k hk hlen hcr hco (hbox2 _ _ b0) (hbox2 _ _ b1) (hbox2 _ _ b2) (hbox2 _ _ b3) (hbox2 _ _ b4) (hbox2 _ _ b5) _ _ _ _ _ _ (hroom2 k _ hk3 0 _ rfl) (hroom2 k _ hk3 1 _ rfl) (hroom2 k _ hk3 2 _ rfl) (hroom2 k _ hk3 3 _ rfl) (hroom2 k _ hk3 4 _ rfl) (hroom2 k _ hk3 5 _ rfl) (hfr2 _) (hfr2 _) (hfr2 _) (hfr2 _) (hfr2 _) (hfr2 _) (Lib.hid ?_) v0 v1 v2 v3 v4 v5 v6 v7 v8 v9 v10 v11 v12 v13 v14 v15 v16 v17 v18 v19 v20 v21 v22 v23 v24 v25 v26 v27 v28 v29 v30 v31 v32 v33 v34 v35 v36 v37 v38 v39 v40 v41 v42 v43 v44 v45 v46 v47 v48 v49 v50 v51 v52 v53 v54 v55 v56 v57 v58 v59 v60 v61 v62 v63 v64 v65 v66 v67 v68 v69 v70 v71 v72 v73 v74 v75 v76 v77 v78 v79 v80 v81
 intro y0 y1 y2 y3 y4 y5 y6 y7 y8 y9 y10 y11 y12 y13 y14 y15 y16 y17 y18 y19 y20 y21 y22 y23 y24 y25 y26 y27 y28 y29 y30 y31 y32 y33 y34 y35 y36 y37 y38 y39 y40 y41 y42 y43 y44 y45 y46 y47 y48 y49 y50 y51 y52 y53 y54 y55 y56 y57 y58 y59 y60 y61 y62 y63 y64 y65 y66 y67 y68 y69 y70 y71 y72 y73 y74 y75 y76 y77 y78 y79 y80 y81
 have hroom3 : NdsAt (put6 (put6 w3 go (k * 6) n) gr (k * 6) n) gr (l.set k n ++ [roomNd]) := by
   have := hroom2.put (i := k) (by simp; omega) n
   rw [List.set_append_left _ _ hk] at this
   exact this
 have hother3 : NdsAt (put6 (put6 w3 go (k * 6) n) gr (k * 6) n) go (l.set k n) := (hother.put hk n).put_other gr (k * 6) n (Ne.symm hne)
 have kf : Kin w0 (put6 (put6 w3 go (k * 6) n) gr (k * 6) n) := (((kw.trans K1).trans K3).put6 (by have := (kw.trans K1).size; omega) n).put6 (by have := kw.size; omega) n
 have hE := moves_end w0 (put6 (put6 w3 go (k * 6) n) gr (k * 6) n) kf (l.set k n) (fun x hx => by
   rcases List.mem_or_eq_of_mem_set hx with h | rfl
   · exact hl x h
   · exact hn) (by rw [List.length_set]; exact hlen) gr go capr capo (by rw [List.length_set]; exact hcr) (by rw [List.length_set]; exact hco) hroom3 hother3
 rw [List.length_set] at hE
 exact hE _ _ _ _ _ _ _ _ _ _ _ _ _ _ _ _ _ _ _ _ _ _ _ _ _ _ _ _ _ _ _ _ _ _ _ _ _ _ _ _ _ _ _ _ _ _ _ _ _ _ _ _ _ _ _ _ _ _ _ _ _ _ _ _ _ _ _ _ _ _ _ _ _ _ _ _ _ _ _ _ _ _ _ _
end Go.Proofs.YtonmcakdofbjiaaDoor
namespace Go.Proofs.YtonmcakdofbjiaaDoor
open Go.RowKit Go.Bsd
noncomputable def fx0 : Code := (Tryd.f4.body.getD .skip)
noncomputable def fx1 : Code := seqL (seqR fx0)
noncomputable def fx2 : Code := seqR (seqR fx0)
theorem fx0_is : fx0 = .seq (seqL fx0) (.seq fx1 fx2) := rfl
theorem fx1_is : ∃ id, fx1 = .region id (regOps fx1) false := ⟨_, rfl⟩
def fixCells : Array Value := #[.int .i64 1, .int .i64 2, .string { data := #[120] }, .int .i64 0, .int .i64 0, .int .i64 0, .int .i64 2, .int .i64 15, .string { data := #[] }, .int .i64 0, .int .i64 4, .int .i64 7, .int .i64 3, .int .i64 10, .string { data := #[] }, .int .i64 1, .int .i64 0, .int .i64 5, .int .i64 3, .int .i64 10, .string { data := #[] }, .int .i64 2, .int .i64 0, .int .i64 9]
theorem fixed_lim : ∀ n ∈ fixedTree, n.name.size <= 140737488355328 /\ -9223372036854775808 <= n.depth /\ n.depth <= 9223372036854775807 := by
 intro n hn
 simp only [fixedTree, List.mem_cons, List.not_mem_nil, or_false] at hn
 rcases hn with rfl | rfl | rfl | rfl <;> exact ⟨by decide, by decide, by decide⟩
theorem fixed_tail (w w1 : World) (kw : Kin w w1) (sl : Value) (hN : NodesAt w1 sl fixedTree) (T : Nat -> Question -> Nat) (d : Nat) (t8 t9 : Value) :
   fx2.wp Tryd.prog (bodyPost Tryd.prog Tryd.f4 (TrueP w)) { tmps := #[.bool false, sl, .nilIface, undef, undef, undef, undef, undef, t8, t9, sl, .nilIface, undef, undef, undef, undef, undef, undef, undef, undef, undef, undef, undef, undef, undef, undef, undef, undef, undef, undef, undef, undef, undef, undef, undef, undef, undef, undef, undef, undef, undef, undef, undef, undef, undef, undef, undef, undef, undef, undef], defers := [] } (re w1 T d) := by
 have k1 : Kin w1 (re w1 T d) := ⟨rfl, rfl, Nat.le_refl _, fun _ _ => rfl⟩
 have k2 : Kin w1 ((re w1 T d).alloc (.cells fixCells 26)) := k1.alloc _
 have hb : ((re w1 T d).alloc (.cells fixCells 26)).heap[w1.heap.size]? = some (.cells fixCells 26 (0, 0)) := by
   have := heap_alloc_new (re w1 T d) (.cells fixCells 26)
   simpa using this
 have n1 := hN.kin k2
 have n2 : NodesAt ((re w1 T d).alloc (.cells fixCells 26)) (.slice (some ⟨w1.heap.size, 0, none⟩) 4 4) fixedTree := NodesAt.of_block hb rfl rfl (by decide)
 have n3 : NodesAt ((re w1 T d).alloc (.cells fixCells 26)) (.slice (some ⟨w1.heap.size, 0, none⟩) 3 4) (fixedTree.take 3) := NodesAt.of_block hb rfl rfl (by decide)
 have HS := Lib.hid (same_any fixedTree fixedTree (by decide) (by decide) _ _ _ n1 n2)
 have HSh := Lib.hid (fun w' (k : Kin _ w') => shape_any fixedTree fixed_lim (by decide) _ w' (n2.kin k))
 have HSh3 := Lib.hid (fun w' (k : Kin _ w') => shape_any (fixedTree.take 3) (fun n hn => fixed_lim n (List.mem_of_mem_take hn)) (by decide) _ w' (n3.kin k))
 rw [fixed_shape] at HSh
 rw [fixed_shape3] at HSh3
 rw [decide_eq_true rfl] at HS
 have KW := Lib.hid (kw.trans k2)
 clear hN n1 n2 n3 k1 k2 hb
 obtain ⟨W2, hW2⟩ : ∃ W2, W2 = (re w1 T d).alloc (.cells fixCells 26) := ⟨_, rfl⟩
 rw [<- hW2] at HSh HSh3 KW
 have HS2 : Hid (Calls Tryd.prog 11 #[sl, .slice (some ⟨w1.heap.size, 0, none⟩) 4 4] ((re w1 T d).alloc (.cells fixCells 26)) fun e w' => e = .returned (.bool true) /\ Hid (Kin W2 w')) := Lib.hid (HS.out.mono fun e w' h => ⟨h.1, Lib.hid (by rw [hW2]; exact h.2)⟩)
 unfold fixCells at HS2
 clear HS hW2
 have hsl : ∀ u, (Instr.sliceAt 22 (.slice (some ⟨w1.heap.size, 0, none⟩) 4 4) none (some (.int .i64 3)) none).run Tryd.prog u = .ok (.slice (some ⟨w1.heap.size, 0, none⟩) 3 4) u := fun u => by
   obtain ⟨k, hk⟩ : ∃ k, ∀ w, (sizeOf (Tryd.prog.elem 22)).run Tryd.prog w = .ok k w := ⟨6, fun w => by kernel_rfl⟩
   rw [run_sliceAt_slice _ _ _ _ _ _ (by kernel_rfl), run_slice_h _ _ _ _ _ (by kernel_rfl) _ _ (by decide) (by decide), hk]
   simp [Result.andThen, sliced, Addr.add]
 generalize hB : bodyPost Tryd.prog Tryd.f4 (TrueP w) = B
 have HB := Lib.hid hB
 clear hB
 simp only [fx2, fx0, seqR, Tryd.f4, Option.getD_some]
 go_wp2_with (go_at_call 11; refine HS2.out.mono ?_; rintro e w3 ⟨rfl, hk3⟩)
 have h18 := Lib.hid (HSh.out _ hk3.out)
 refine h18.out.mono ?_
 rintro e w4 ⟨rfl, hk4'⟩
 have hk4 := Lib.hid hk4'
 clear hk4' h18
 dsimp only
 go_wp2_with fail
 have h18 := Lib.hid (HSh3.out _ (hk3.out.trans hk4.out))
 refine h18.out.mono ?_
 rintro e w5 ⟨rfl, hk5'⟩
 have hk5 := Lib.hid hk5'
 clear hk5' h18 HSh3 HSh hsl
 dsimp only
 go_wp2_with fail
 rw [<- HB.out]
 go_ret
 exact ⟨rfl, KW.out.trans (hk3.out.trans (hk4.out.trans hk5.out))⟩
end Go.Proofs.YtonmcakdofbjiaaDoor
namespace Go.Proofs.YtonmcakdofbjiaaDoor
open Go.RowKit Go.Bsd
theorem fixed_any (hP : TameProg Tryd.prog) (te : TypeId) (pe : Value) (w : World) (hv : VarsOk w) (ce : w.cell? ⟨0, 0, none⟩ = some (.iface te pe)) : CallsB Tryd.prog 4 #[] w (TrueP w) := by
 have hR : ∀ w', ¬ TrueP w .outgrown w' := fun w' h => h
 refine callsB_of_wpB hP Tryd.func4 (c := fx0) rfl hR ?_
 rw [fx0_is]
 have ha : (#[] ++ Array.replicate (Tryd.f4.ntmps - (#[] : Array Value).size) undef) = #[undef, undef, undef, undef, undef, undef, undef, undef, undef, undef, undef, undef, undef, undef, undef, undef, undef, undef, undef, undef, undef, undef, undef, undef, undef, undef, undef, undef, undef, undef, undef, undef, undef, undef, undef, undef, undef, undef, undef, undef, undef, undef, undef, undef, undef, undef, undef, undef, undef, undef] := by
   simp only [Tryd.ntmps4]
   simp [Array.replicate_succ]
 rw [ha]
 clear ha
 refine wpB_seq_lone hP fun T d => ?_
 generalize hB : bodyPost Tryd.prog Tryd.f4 (TrueP w) = B
 have HB := Lib.hid hB
 clear hB
 generalize hY : (Code.seq fx1 fx2) = Y
 have HP := Lib.hid (parse_any hP fixedText (by decide) te pe w hv ce _ fixed_parses)
 clear hv ce
 simp only [seqL, fx0, Tryd.f4, Option.getD_some]
 go_wp2
 subst hY
 refine wpB_tape ?_
 refine wpB_seq hP ?_
 obtain ⟨id, hid⟩ := fx1_is
 rw [hid]
 clear hid
 generalize hX : fx2 = X
 simp only [fx1, fx0, seqL, seqR, regOps, Tryd.f4, Option.getD_some]
 subst hX
 refine wpB_region hP (l := [_, _, _, _, _, _]) ?_
 refine listB_fn hP Tryd.func10 (by kernel_rfl) (by kernel_rfl) rfl rfl (args := #[.string fixedText]) (by simp [Act.eval, evalT, fixedText]) (HP.out.mono ?_)
 rintro e w1 hpost
 cases e with
 | outgrown => exact hpost.elim
 | panicked _ => exact hpost.elim
 | returned v =>
   obtain ⟨kin, sl, rfl, hown⟩ := hpost
   have hn := NodesAt.of_owns hown
   have HT : Hid (∀ t8 t9, wpB Tryd.prog fx2 B { tmps := #[.bool false, sl, .nilIface, undef, undef, undef, undef, undef, t8, t9, sl, .nilIface, undef, undef, undef, undef, undef, undef, undef, undef, undef, undef, undef, undef, undef, undef, undef, undef, undef, undef, undef, undef, undef, undef, undef, undef, undef, undef, undef, undef, undef, undef, undef, undef, undef, undef, undef, undef, undef, undef], defers := [] } w1) := Lib.hid (fun t8 t9 => by
     rw [<- HB.out]
     exact wpB_lift hP fun T d => fixed_tail w w1 kin sl hn T d t8 t9)
   clear hn hown kin HB HP
   generalize hX : fx2 = X at HT ⊢
   clear hX
   show listB Tryd.prog _ _ _ _ w1
   generalize hN : Exit.then (wpB Tryd.prog X B) B = N
   refine listB_lift hP fun T d => ?_
   go_wp2
   subst hN
   exact HT.out _ _
end Go.Proofs.YtonmcakdofbjiaaDoor
namespace Go.Proofs.YtonmcakdofbjiaaDoor
open Go.RowKit Go.Bsd
theorem mv0_is : mv0 = .seq (seqL mv0) (.seq (.seq (seqL (seqL mv1)) (seqR (seqL mv1))) mv2) := rfl
theorem mv1_reg : ∃ id, seqL (seqL mv1) = .region id (regOps (seqL (seqL mv1))) false := ⟨_, rfl⟩
theorem moves_any (hP : TameProg Tryd.prog) (w : World) (hv : VarsOk w) (te : TypeId) (pe : Value) (hr : w.cell? ⟨0, 0, none⟩ = some (.iface te pe)) (l : List Nd) (hl : ∀ n ∈ l, NdOk n) (hsz : (l.length + 1) * 56 <= 140737488355328) (v : Value) (hN : NodesAt w v l) (hs : InSlice v) (n : Nd) (hn : NdOk n) (at_ : Int) : CallsB Tryd.prog 3 #[v, .int .i64 at_, .agg #[.int .i64 n.depth, .int .i64 n.kind, .string n.name, .int .i64 n.num, .int .i64 n.op, .int .i64 n.at_]] w (TrueP w) := by
 have hR : ∀ w', ¬ TrueP w .outgrown w' := fun w' h => h
 obtain ⟨b, capv, rfl⟩ : ∃ b capv, v = .slice b l.length capv := by
   obtain ⟨b, cap, h1, _⟩ := hN
   exact ⟨b, cap, h1⟩
 refine callsB_of_wpB hP Tryd.func3 (c := mv0) rfl hR ?_
 rw [mv0_is]
 have ha : (#[.slice b l.length capv, .int .i64 at_, .agg #[.int .i64 n.depth, .int .i64 n.kind, .string n.name, .int .i64 n.num, .int .i64 n.op, .int .i64 n.at_]] ++ Array.replicate (Tryd.f3.ntmps - (#[.slice b l.length capv, .int .i64 at_, .agg #[.int .i64 n.depth, .int .i64 n.kind, .string n.name, .int .i64 n.num, .int .i64 n.op, .int .i64 n.at_]] : Array Value).size) undef) = #[.slice b l.length capv, .int .i64 at_, .agg #[.int .i64 n.depth, .int .i64 n.kind, .string n.name, .int .i64 n.num, .int .i64 n.op, .int .i64 n.at_], undef, undef, undef, undef, undef, undef, undef, undef, undef, undef, undef, undef, undef, undef, undef, undef, undef, undef, undef, undef, undef, undef, undef, undef, undef, undef, undef, undef, undef, undef, undef, undef, undef, undef, undef, undef, undef, undef, undef, undef, undef, undef, undef, undef, undef, undef, undef, undef, undef, undef, undef, undef, undef, undef, undef, undef, undef, undef, undef, undef, undef, undef, undef, undef, undef, undef, undef, undef, undef, undef, undef, undef, undef, undef, undef, undef, undef, undef, undef, undef, undef, undef, undef, undef, undef] := by
   simp only [Tryd.ntmps3]
   simp [Array.replicate_succ]
 rw [ha]
 clear ha
 have K0 : Kin w (w.alloc (.cells #[.int .i64 n.depth, .int .i64 n.kind, .string n.name, .int .i64 n.num, .int .i64 n.op, .int .i64 n.at_] 26)) := (Kin.refl w).alloc _
 have HP := Lib.hid (fixed_any hP te pe (w.alloc (.cells #[.int .i64 n.depth, .int .i64 n.kind, .string n.name, .int .i64 n.num, .int .i64 n.op, .int .i64 n.at_] 26)) (hv.kin K0) ((K0.cell (World.block_lt_of_cell? w _ hr)).trans hr))
 have HE : Hid (∀ w1, Kin (w.alloc (.cells #[.int .i64 n.depth, .int .i64 n.kind, .string n.name, .int .i64 n.num, .int .i64 n.op, .int .i64 n.at_] 26)) w1 -> ∀ (t2 t3 t4 t7 t8 t9 t10 t11 t12 t13 t14 t15 t16 t17 t18 t19 t20 t21 t22 t23 t24 t25 t26 t27 t28 t29 t30 t31 t32 t33 t34 t35 t36 t37 t38 t39 t40 t41 t42 t43 t44 t45 t46 t47 t48 t49 t50 t51 t52 t53 t54 t55 t56 t57 t58 t59 t60 t61 t62 t63 t64 t65 t66 t67 t68 t69 t70 t71 t72 t73 t74 t75 t76 t77 t78 t79 t80 t81 t82 t83 t84 t85 t86 t87 : Value), wpB Tryd.prog mv2 (bodyPost Tryd.prog Tryd.f3 (TrueP w)) { tmps := #[.slice b l.length capv, .int .i64 at_, t2, t3, t4, .pointer (some ⟨w.heap.size, 0, none⟩), .bool false, t7, t8, t9, t10, t11, t12, t13, t14, t15, t16, t17, t18, t19, t20, t21, t22, t23, t24, t25, t26, t27, t28, t29, t30, t31, t32, t33, t34, t35, t36, t37, t38, t39, t40, t41, t42, t43, t44, t45, t46, t47, t48, t49, t50, t51, t52, t53, t54, t55, t56, t57, t58, t59, t60, t61, t62, t63, t64, t65, t66, t67, t68, t69, t70, t71, t72, t73, t74, t75, t76, t77, t78, t79, t80, t81, t82, t83, t84, t85, t86, t87], defers := [] } w1) := Lib.hid (fun w1 K1 t2 t3 t4 t7 t8 t9 t10 t11 t12 t13 t14 t15 t16 t17 t18 t19 t20 t21 t22 t23 t24 t25 t26 t27 t28 t29 t30 t31 t32 t33 t34 t35 t36 t37 t38 t39 t40 t41 t42 t43 t44 t45 t46 t47 t48 t49 t50 t51 t52 t53 t54 t55 t56 t57 t58 t59 t60 t61 t62 t63 t64 t65 t66 t67 t68 t69 t70 t71 t72 t73 t74 t75 t76 t77 t78 t79 t80 t81 t82 t83 t84 t85 t86 t87 => wpB_lift hP fun T d => by
   have K2 := K1.trans (kin_re w1 T d)
   have hb : ∀ (j : Nat) (c : Value), n.cells[j]? = some c -> (re w1 T d).cell? ⟨w.heap.size, j, none⟩ = some c := fun j c hc => by
     have := newNd26 w n j c hc
     rw [add_plain, Nat.zero_add] at this
     exact (K2.cell (by simp)).trans this
   exact moves_lone w (re w1 T d) (K0.trans K2) l hl hsz b capv (hN.kin (K0.trans K2)) hs n hn at_ w.heap.size (by have := K1.size; simp at this; exact this) (hb 0 _ rfl) (hb 1 _ rfl) (hb 2 _ rfl) (hb 3 _ rfl) (hb 4 _ rfl) (hb 5 _ rfl) t2 t3 t4 t7 t8 t9 t10 t11 t12 t13 t14 t15 t16 t17 t18 t19 t20 t21 t22 t23 t24 t25 t26 t27 t28 t29 t30 t31 t32 t33 t34 t35 t36 t37 t38 t39 t40 t41 t42 t43 t44 t45 t46 t47 t48 t49 t50 t51 t52 t53 t54 t55 t56 t57 t58 t59 t60 t61 t62 t63 t64 t65 t66 t67 t68 t69 t70 t71 t72 t73 t74 t75 t76 t77 t78 t79 t80 t81 t82 t83 t84 t85 t86 t87)
 clear hv hr hl hN hs hn K0
 generalize hB : bodyPost Tryd.prog Tryd.f3 (TrueP w) = B at HE ⊢
 clear hB
 generalize hX : mv2 = X at HE ⊢
 clear hX
 refine wpB_seq_lone hP fun T d => ?_
 have hY : ∃ Y, Y = Code.seq (Code.seq (seqL (seqL mv1)) (seqR (seqL mv1))) X := ⟨_, rfl⟩
 obtain ⟨Y, hY⟩ := hY
 rw [<- hY]
 simp only [mv1, mv0, seqL, seqR, regOps, Tryd.f3, Option.getD_some]
 go_wp2_with fail
 subst hY
 refine wpB_tape (w := w.alloc (.cells #[.int .i64 n.depth, .int .i64 n.kind, .string n.name, .int .i64 n.num, .int .i64 n.op, .int .i64 n.at_] 26)) (T := T) (d := d) ?_
 refine wpB_seq hP ?_
 refine wpB_seq hP ?_
 obtain ⟨id, hid⟩ := mv1_reg
 rw [hid]
 clear hid
 generalize w.alloc (.cells #[.int .i64 n.depth, .int .i64 n.kind, .string n.name, .int .i64 n.num, .int .i64 n.op, .int .i64 n.at_] 26) = wb at HP HE ⊢
 generalize hZ : seqR (seqL mv1) = Z
 have HZ := Lib.hid hZ
 clear hZ
 simp only [mv1, mv0, seqL, seqR, regOps, Tryd.f3, Option.getD_some]
 refine wpB_region hP (l := [_, _]) ?_
 refine listB_fn hP Tryd.func4 (by kernel_rfl) (by kernel_rfl) rfl rfl (args := #[]) (by simp) (HP.out.mono ?_)
 rintro e' w2 hpost
 cases e' with
 | outgrown => exact hpost.elim
 | panicked _ => exact hpost.elim
 | returned v =>
   obtain ⟨rfl, k2⟩ := hpost
   have hE2 := Lib.hid (HE.out w2 k2)
   clear HE k2 HP
   show listB Tryd.prog _ _ _ _ w2
   generalize hM : Exit.then (wpB Tryd.prog Z _) _ = M
   have HM := Lib.hid hM
   clear hM
   refine listB_lift hP fun T d => ?_
   go_wp2
   rw [<- HM.out]
   show wpB Tryd.prog Z _ _ _
   rw [<- HZ.out]
   clear HM HZ
   refine wpB_tape ?_
   refine wpB_lift hP fun T d => ?_
   simp only [mv1, mv0, seqL, seqR, regOps, Tryd.f3, Option.getD_some]
   go_wp2_with fail
   exact hE2.out _ _ _ _ _ _ _ _ _ _ _ _ _ _ _ _ _ _ _ _ _ _ _ _ _ _ _ _ _ _ _ _ _ _ _ _ _ _ _ _ _ _ _ _ _ _ _ _ _ _ _ _ _ _ _ _ _ _ _ _ _ _ _ _ _ _ _ _ _ _ _ _ _ _ _ _ _ _ _ _ _ _ _ _
end Go.Proofs.YtonmcakdofbjiaaDoor
namespace Go.Proofs.YtonmcakdofbjiaaDoor
open Go.RowKit Go.ChangeShapes Go.WideShapes
section
variable {H : Type} {enc : TypeId × Value -> H} {w : World} {base : Nat} {spare : Nat -> Bool} {held : Bool}
def ndData {H : Type} (n : Nd) : DataW H := .agg [.lit (.int .i64 n.depth), .lit (.int .i64 n.kind), .lit (.string n.name.data.toList), .lit (.int .i64 n.num), .lit (.int .i64 n.op), .lit (.int .i64 n.at_)]
def NdIn (n : Nd) : Prop := -9223372036854775808 <= n.depth /\ n.depth <= 9223372036854775807
theorem node_trod {fuel : Nat} {cs : List Value} {x : DataW H × List MemPlace} (h : DataW.trod enc Tryd.prog w base spare held fuel 26 cs = some x) : ∃ n : Nd, cs = n.cells /\ x = (ndData n, []) /\ NdIn n := by
 obtain ⟨xs, m, _, hx, hl, hlen, hf⟩ := DataW.trod_struct Tryd.underlying26 h
 have hl6 : cs.length = 6 := hl.trans (by kernel_rfl)
 have k3 : Tryd.prog.cellsOf 3 = 1 := by kernel_rfl
 have k23 : Tryd.prog.cellsOf 23 = 1 := by kernel_rfl
 have k9 : Tryd.prog.cellsOf 9 = 1 := by kernel_rfl
 have k2 : Tryd.prog.cellsOf 2 = 1 := by kernel_rfl
 have k24 : Tryd.prog.cellsOf 24 = 1 := by kernel_rfl
 match cs, hl6, xs, hlen with
 | [c0, c1, c2, c3, c4, c5], _, [y0, y1, y2, y3, y4, y5], _ =>
   have f0 := hf 0 _ rfl
   have f1 := hf 1 _ rfl
   have f2 := hf 2 _ rfl
   have f3 := hf 3 _ rfl
   have f4 := hf 4 _ rfl
   have f5 := hf 5 _ rfl
   simp only [k3, k23, k9, k2, k24, List.drop_zero, List.drop_succ_cons, List.take_succ_cons, List.take_zero, List.getElem?_cons_zero, List.getElem?_cons_succ] at f0 f1 f2 f3 f4 f5
   obtain ⟨z0, e0, g0, w0⟩ := DataW.trod_int Tryd.underlying3 f0
   obtain ⟨z1, e1, g1, _⟩ := DataW.trod_int Tryd.underlying23 f1
   obtain ⟨z2, e2, g2, _⟩ := DataW.trod_string Tryd.underlying9 f2
   obtain ⟨z3, e3, g3, _⟩ := DataW.trod_int Tryd.underlying2 f3
   obtain ⟨z4, e4, g4, _⟩ := DataW.trod_int Tryd.underlying24 f4
   obtain ⟨z5, e5, g5, _⟩ := DataW.trod_int Tryd.underlying3 f5
   cases e0; cases e1; cases e2; cases e3; cases e4; cases e5
   subst g0 g1 g2 g3 g4 g5
   refine ⟨⟨z0, z1, z2, z3, z4, z5⟩, rfl, by rw [hx]; rfl, ?_⟩
   simp only [Lit.wf, Bool.and_eq_true, decide_eq_true_eq] at w0
   unfold NdIn
   have a1 : IntKind.i64.min = -9223372036854775808 := by decide
   have a2 : IntKind.i64.max = 9223372036854775807 := by decide
   rw [a1, a2] at w0
   exact w0
theorem nodes_trod {v : Value} {d : DataW H} {ps : List MemPlace} (hv : ∃ a n c, v = .slice a n c) (h : DataW.Trod enc Tryd.prog w base spare held 22 v d ps) :
   ∃ l : List Nd, NodesAt w v l /\ InSlice v /\ (∀ n ∈ l, NdIn n) /\ (d = .nil /\ l = [] \/ ∃ sp, d = .slice (l.map ndData) sp) := by
 obtain ⟨a0, n0, c0, rfl⟩ := hv
 obtain ⟨fuel, hf⟩ := h
 have hcs : (Value.slice a0 n0 c0).cells.toList = [.slice a0 n0 c0] := rfl
 rw [hcs] at hf
 have k26 : Tryd.prog.cellsOf 26 = 6 := by kernel_rfl
 rcases Go.Deep.open_slice Tryd.underlying22 hf with ⟨h1, h2⟩ | ⟨a, len, cap, m, n, D, Pl, h1, hb, hl, hm, hmm, hx, hi⟩
 · cases h1
   cases h2
   exact ⟨[], ⟨none, 0, rfl, Nat.le_refl _, fun h => absurd rfl h⟩, .inl rfl, (fun n hn => by cases hn), .inl ⟨rfl, rfl⟩⟩
 · obtain ⟨e0, e1, e2⟩ : a0 = some a /\ n0 = len /\ c0 = cap := by
     have h1 := (List.cons.inj h1).1
     simpa only [Value.slice.injEq] using h1
   have e1 := e1.symm
   have e2 := e2.symm
   subst e0
   subst e1
   subst e2
   rw [k26] at hi hx
   have hlm : len <= m := by rw [hmm]; split <;> omega
   have get : ∀ i, i < len -> ∃ nd : Nd, D i = ndData nd /\ NdIn nd /\ ∀ k c, nd.cells[k]? = some c -> w.cell? ((a.add (i * 6)).add k) = some c := fun i hi' => by
     obtain ⟨cs', hc, ht⟩ := hi i (by omega)
     obtain ⟨nd, rfl, hxx, hin⟩ := node_trod ht
     obtain ⟨_, hcl, hat⟩ := World.cells?_some hc
     simp only [Prod.mk.injEq] at hxx
     refine ⟨nd, hxx.1, hin, fun k c hk => ?_⟩
     have hk6 := (List.getElem?_eq_some_iff.1 hk).1
     have : nd.cells.length = 6 := rfl
     exact (hat k (by omega)).trans hk
   have pick : ∀ i : Fin len, ∃ nd : Nd, D i = ndData nd /\ NdIn nd /\ ∀ k c, nd.cells[k]? = some c -> w.cell? ((a.add (i * 6)).add k) = some c := fun i => get i i.isLt
   let f : Fin len -> Nd := fun i => Classical.choose (pick i)
   have hf' := fun i : Fin len => Classical.choose_spec (pick i)
   have hlen : (List.ofFn f).length = len := List.length_ofFn
   have hget : ∀ (j : Nat) (x : Nd), (List.ofFn f)[j]? = some x -> ∃ hj : j < len, x = f ⟨j, hj⟩ := fun j x hx' => by
     obtain ⟨hj, e⟩ := List.getElem?_eq_some_iff.1 hx'
     rw [hlen] at hj
     exact ⟨hj, by rw [<- e, List.getElem_ofFn]⟩
   refine ⟨List.ofFn f, ⟨some a, cap, by rw [hlen], by rw [hlen]; exact hl, fun hne => ?_⟩, .inr ⟨a, len, cap, rfl⟩, fun n hn => ?_, .inr ⟨List.map (fun j => D (len + j)) (List.range (m - len)), ?_⟩⟩
   · have hpos : 0 < len := by
       rcases Nat.eq_zero_or_pos len with h0 | h0
       · exact absurd (List.eq_nil_of_length_eq_zero (hlen.trans h0)) hne
       · exact h0
     -- the address is plain: a cell lies there
     have h00 := (hf' ⟨0, hpos⟩).2.2 0 _ rfl
     have hsp : a.spot = none := by
       obtain ⟨b, o, s⟩ := a
       cases s with
       | none => rfl
       | some x =>
         exfalso
         unfold World.cell? Addr.add at h00
         split at h00 <;> simp_all
     obtain ⟨b, o, s⟩ := a
     simp only at hsp
     subst hsp
     refine ⟨b, o, rfl, fun j x hx' k c hk => ?_⟩
     obtain ⟨hj, rfl⟩ := hget j x hx'
     have := (hf' ⟨j, hj⟩).2.2 k c hk
     rw [add_plain, add_plain] at this
     exact this
   · obtain ⟨j, hj⟩ := List.mem_iff_getElem?.1 hn
     obtain ⟨hj', rfl⟩ := hget j n hj
     exact (hf' ⟨j, hj'⟩).2.1
   · simp only [Prod.mk.injEq] at hx
     have HL : List.map D (List.range len) = (List.ofFn f).map ndData := ?hl
     · rw [hx.1, HL]
     case hl =>
       apply List.ext_getElem?
       intro j
       by_cases hj : j < len
       · rw [List.getElem?_map, List.getElem?_map, List.getElem?_range hj, List.getElem?_eq_getElem (by rw [hlen]; exact hj), List.getElem_ofFn]
         simp only [Option.map_some]
         rw [(hf' ⟨j, hj⟩).1]
       · rw [List.getElem?_eq_none (by simp; omega), List.getElem?_eq_none (by simp; omega)]
end
end Go.Proofs.YtonmcakdofbjiaaDoor
