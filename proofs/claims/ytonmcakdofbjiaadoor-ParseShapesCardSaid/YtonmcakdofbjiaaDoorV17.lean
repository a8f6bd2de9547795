/-
  The parts: base Tok2 base Tok3 base Tok4 base Tok5 base Cls0
-/
import Derived.Test.YtonmcakdofbjiaaDoorV13
import Derived.Test.YtonmcakdofbjiaaDoorV15
import Derived.Test.YtonmcakdofbjiaaDoorV16
import Derived.OwnWalk
import Derived.Conc.TokenWalk
import Derived.Test.YtonmcakdofbjiaaDoorV4
import Derived.Test.YtonmcakdofbjiaaDoorRows
import Derived.Conc.LeavingOf
import Derived.Conc.Holds
import Derived.SevenTiedAt
import Derived.Stop.Joined
import Derived.LaidLaws
import Derived.MakeChecks
import Derived.ProofKit
import Derived.OpenShut
import Derived.LaidMore
import Derived.Lay
set_option linter.unusedVariables false
set_option linter.unusedSimpArgs false
set_option linter.unusedSectionVars false
set_option linter.unnecessarySimpa false
set_option maxRecDepth 100000
set_option maxHeartbeats 8000000
namespace Go.Proofs.YtonmcakdofbjiaaDoor
open Go.RowKit Go.Bsd Go.Conc
theorem prod_sim : SimP Tryd.prog (inF prodF) (inG prodG) (fun b => b = true) := by
 refine simP_of fun f hf => ?_
 simp only [prodF, List.mem_cons, List.not_mem_nil, or_false] at hf
 rcases hf with rfl | rfl | rfl | rfl | rfl | rfl | rfl | rfl | rfl | rfl | rfl | rfl | rfl | rfl | rfl | rfl | rfl | rfl | rfl | rfl | rfl | rfl | rfl | rfl | rfl | rfl | rfl | rfl | rfl | rfl | rfl | rfl | rfl | rfl | rfl | rfl | rfl | rfl | rfl | rfl
 · exact ⟨_, Tryd.func43, side43⟩
 · exact ⟨_, Tryd.func44, side44⟩
 · exact ⟨_, Tryd.func84, side84⟩
 · exact ⟨_, Tryd.func49, side49⟩
 · exact ⟨_, Tryd.func50, side50⟩
 · exact ⟨_, Tryd.func51, side51⟩
 · exact ⟨_, Tryd.func52, side52⟩
 · exact ⟨_, Tryd.func53, side53⟩
 · exact ⟨_, Tryd.func54, side54⟩
 · exact ⟨_, Tryd.func55, side55⟩
 · exact ⟨_, Tryd.func56, side56⟩
 · exact ⟨_, Tryd.func57, side57⟩
 · exact ⟨_, Tryd.func58, side58⟩
 · exact ⟨_, Tryd.func59, side59⟩
 · exact ⟨_, Tryd.func85, side85⟩
 · exact ⟨_, Tryd.func86, side86⟩
 · exact ⟨_, Tryd.func87, side87⟩
 · exact ⟨_, Tryd.func88, side88⟩
 · exact ⟨_, Tryd.func62, side62⟩
 · exact ⟨_, Tryd.func63, side63⟩
 · exact ⟨_, Tryd.func89, side89⟩
 · exact ⟨_, Tryd.func90, side90⟩
 · exact ⟨_, Tryd.func91, side91⟩
 · exact ⟨_, Tryd.func92, side92⟩
 · exact ⟨_, Tryd.func93, side93⟩
 · exact ⟨_, Tryd.func70, side70⟩
 · exact ⟨_, Tryd.func71, side71⟩
 · exact ⟨_, Tryd.func94, side94⟩
 · exact ⟨_, Tryd.func95, side95⟩
 · exact ⟨_, Tryd.func73, side73⟩
 · exact ⟨_, Tryd.func74, side74⟩
 · exact ⟨_, Tryd.func75, side75⟩
 · exact ⟨_, Tryd.func76, side76⟩
 · exact ⟨_, Tryd.func77, side77⟩
 · exact ⟨_, Tryd.func78, side78⟩
 · exact ⟨_, Tryd.func79, side79⟩
 · exact ⟨_, Tryd.func80, side80⟩
 · exact ⟨_, Tryd.func81, side81⟩
 · exact ⟨_, Tryd.func82, side82⟩
 · exact ⟨_, Tryd.func83, side83⟩
def cutAct (s : ByteArray) (c : Nat) : Act := { tmps := #[.string s, .chan (some c), undef, undef, undef, undef, undef, undef, undef, undef, .chan (some c)] ++ Array.replicate 35 undef, defers := [] }
noncomputable def frp (s : ByteArray) (c : Nat) : Frame := (base0 30).at (cutAct s c) [.code cutRest]
def Xp (s : ByteArray) (f : FuncId) (c : Nat) (W : World) (g : Goroutine) (v : World) : Prop :=
 ∃ fr, g = Go.Conc.G fr [bottom f c] /\ fr.mode = .returning /\ fr.defers = [] /\ fr.fn = 30 /\ (∀ y, y < W.heap.size -> y ≠ c -> v.heap[y]? = W.heap[y]?) /\ v.heap[c]? = some (.chan ((pieces s).length + 1) ((pieces s).map Item.v).toArray false (pieces s).length 0 false)
theorem xp_free (s : ByteArray) (f : FuncId) (c : Nat) (W : World) : TapeFree (Xp s f c W) := fun g w T d h => h
theorem xp_close (s : ByteArray) (f : FuncId) (c : Nat) (W : World) : ∀ g v, Xp s f c W g v -> AtClose Tryd.prog f c (((pieces s).map Item.v).length + 1) ((pieces s).map Item.v) g v := by
 rintro g v ⟨fr, h1, h2, h3, h4, h5, h6⟩
 refine ⟨fr, h1, h2, h3, ⟨Tryd.f30, by rw [h4]; exact Tryd.func30, rfl⟩, fun b n r hb => ?_⟩
 rw [h6] at hb
 simp only [Option.some.injEq, Obj.chan.injEq] at hb
 rw [<- hb.2.1]
theorem cut_lone (s : ByteArray) (f : FuncId) (c : Nat) (W : World) (hs : s.size <= 8796093022207) (hc : c < W.heap.size) (e1 e2 : Value) (h8 : W.cell? ⟨1, 0, none⟩ = some e1) (h9 : W.cell? ⟨2, 0, none⟩ = some e2) (he1 : ∃ te pe, e1 = .iface te pe) (he2 : ∃ te pe, e2 = .iface te pe) (hc8 : c ≠ 1) (hc9 : c ≠ 2) :
   Lone Tryd.prog (Xp s f c W) (Go.Conc.G (frp s c) [bottom f c]) (put W c (.chan ((pieces s).length + 1) #[] false 0 0 false)) := by
 intro T d
 have hv : ∀ y, y ≠ c -> (re (put W c (.chan ((pieces s).length + 1) #[] false 0 0 false)) T d).heap[y]? = W.heap[y]? := fun y hy => put_ne (Ne.symm hy)
 have cell : ∀ y o, y ≠ c -> (re (put W c (.chan ((pieces s).length + 1) #[] false 0 0 false)) T d).cell? ⟨y, o, none⟩ = W.cell? ⟨y, o, none⟩ := fun y o hy => by
   unfold World.cell?
   rw [show (⟨y, o, none⟩ : Addr).block = y from rfl, hv y hy]
 have hch : (re (put W c (.chan ((pieces s).length + 1) #[] false 0 0 false)) T d).heap[c]? = some (.chan ((pieces s).length + 1) #[] false 0 0 false) := put_at hc
 have hsz : (re (put W c (.chan ((pieces s).length + 1) #[] false 0 0 false)) T d).heap.size = W.heap.size := put_size _ _ _
 obtain ⟨e, a', w', ⟨he, hd, ho, hq⟩, harr⟩ := cut_walk s c ((pieces s).length + 1) (re (put W c (.chan ((pieces s).length + 1) #[] false 0 0 false)) T d) hs (Nat.lt_succ_self _) e1 e2 ((cell 1 0 (Ne.symm hc8)).trans h8) ((cell 2 0 (Ne.symm hc9)).trans h9) he1 he2 hch (base0 30) [] [bottom f c]
 have ho' : ∀ y, y < W.heap.size -> y ≠ c -> w'.heap[y]? = W.heap[y]? := fun y hy hyc => (ho y (by rw [hsz]; exact hy) hyc).trans (hv y hyc)
 rcases he with rfl | rfl
 · obtain ⟨n, hn⟩ := Steps.trans harr (.one step_end)
   exact ⟨n, _, w', hn, rfl, _, rfl, rfl, hd, rfl, ho', hq⟩
 · obtain ⟨todo, n, hn⟩ := harr
   exact ⟨n, _, w', hn, rfl, _, rfl, rfl, hd, rfl, ho', hq⟩
end Go.Proofs.YtonmcakdofbjiaaDoor
namespace Go.Proofs.YtonmcakdofbjiaaDoor
open Go.RowKit Go.Bsd Go.Conc
noncomputable def tk0 : Code := (Tryd.f18.body.getD .skip)
noncomputable def seqR : Code -> Code | .seq _ y => y | c => c
noncomputable def seqL : Code -> Code | .seq x _ => x | c => c
noncomputable def unLoop : Code -> Code | .loop c => c | c => c
noncomputable def unBlock : Code -> Code | .block _ c => c | c => c
noncomputable def regOps : Code -> Array Oper | .region _ o _ => o | _ => #[]
noncomputable def tk2 : Code := seqR (seqR tk0)
noncomputable def tkGo : Code := seqL (seqR tk2)
noncomputable def tk4 : Code := seqR (seqR tk2)
noncomputable def tkLoop : Code := unLoop (unBlock (seqR (seqL (seqR (seqR tk4)))))
noncomputable def tkEnd : Code := seqR (seqR (seqR tk4))
noncomputable def tkItem : Code := seqR tkLoop
theorem arr36 (a : Array Value) (h : a.size = 36) : ∃ t0 t1 t2 t3 t4 t5 t6 t7 t8 t9 t10 t11 t12 t13 t14 t15 t16 t17 t18 t19 t20 t21 t22 t23 t24 t25 t26 t27 t28 t29 t30 t31 t32 t33 t34 t35, a = #[t0, t1, t2, t3, t4, t5, t6, t7, t8, t9, t10, t11, t12, t13, t14, t15, t16, t17, t18, t19, t20, t21, t22, t23, t24, t25, t26, t27, t28, t29, t30, t31, t32, t33, t34, t35] := by
 obtain ⟨l⟩ := a
 simp only [List.size_toArray] at h
 rcases l with _ | ⟨t0, _ | ⟨t1, _ | ⟨t2, _ | ⟨t3, _ | ⟨t4, _ | ⟨t5, _ | ⟨t6, _ | ⟨t7, _ | ⟨t8, _ | ⟨t9, _ | ⟨t10, _ | ⟨t11, _ | ⟨t12, _ | ⟨t13, _ | ⟨t14, _ | ⟨t15, _ | ⟨t16, _ | ⟨t17, _ | ⟨t18, _ | ⟨t19, _ | ⟨t20, _ | ⟨t21, _ | ⟨t22, _ | ⟨t23, _ | ⟨t24, _ | ⟨t25, _ | ⟨t26, _ | ⟨t27, _ | ⟨t28, _ | ⟨t29, _ | ⟨t30, _ | ⟨t31, _ | ⟨t32, _ | ⟨t33, _ | ⟨t34, _ | ⟨t35, _ | ⟨u, l⟩⟩⟩⟩⟩⟩⟩⟩⟩⟩⟩⟩⟩⟩⟩⟩⟩⟩⟩⟩⟩⟩⟩⟩⟩⟩⟩⟩⟩⟩⟩⟩⟩⟩⟩⟩⟩ <;> first | (simp at h; done) | (simp at h; omega) | exact ⟨_, _, _, _, _, _, _, _, _, _, _, _, _, _, _, _, _, _, _, _, _, _, _, _, _, _, _, _, _, _, _, _, _, _, _, _, rfl⟩
structure TokA (s : ByteArray) (c b : Nat) (sl : Value) (a : Act) : Prop where
 size : a.tmps.size = 36
 s6 : a.tmps[6]? = some sl
 s7 : a.tmps[7]? = some (.pointer (some ⟨b, 0, none⟩))
 s15 : a.tmps[15]? = some (.chan (some c))
 defers : a.defers = []
def goodOf (l : List Item) : List Item := l.filter fun x => decide (x.code = 0)
def badOf (l : List Item) : Int × Int := l.foldl (fun acc x => if x.code = 0 then acc else (x.code, x.place)) (0, 0)
def tokCells (x : Item) : List Value := [.int .i64 x.kind, .string x.text, .int .i64 x.num, .int .i64 x.pos]
def flatToks (l : List Item) : List Value := l.flatMap tokCells
theorem flatToks_length (l : List Item) : (flatToks l).length = l.length * 4 := by
 induction l with
 | nil => rfl
 | cons x l ih => simp only [flatToks, List.flatMap_cons, List.length_append, List.length_cons] at ih ⊢; rw [ih]; simp [tokCells]; omega
theorem info140 : (Tryd.prog.info? 74).map (fun i => (i.zero, i.size, i.bytes)) = some (some (.agg #[.int .i64 0, .string ⟨#[]⟩, .int .i64 0, .int .i64 0]), 4, 40) := by kernel_rfl
structure TokW (c : Nat) (L : List Item) (m n b : Nat) (sl : Value) (v : World) : Prop where
 chan : v.heap[c]? = some (.chan (L.length + 1) ((L.drop m).map Item.v).toArray false L.length m false)
 own : v.ownsRow (b + 1) 74 4 sl (goodOf (L.take n)).length (flatToks (goodOf (L.take n)))
 bad : ∃ x0 x1 x2 x3, Six v b x0 x1 x2 x3 (.int .i64 (badOf (L.take n)).1) (.int .i64 (badOf (L.take n)).2)
 lt : b < v.heap.size
 ltc : c < b
theorem Six.grown {w w' : World} {n : Nat} {row : Option Nat} {x0 x1 x2 x3 x4 x5 : Value} (h : Six w n x0 x1 x2 x3 x4 x5) (hg : w.grownBy w' row) (hn : n < w.heap.size) (hr : some n ≠ row) : Six w' n x0 x1 x2 x3 x4 x5 := by
 have hb := hg.block n hn hr
 have hc : ∀ o, w'.cell? ⟨n, o, none⟩ = w.cell? ⟨n, o, none⟩ := fun o => World.cell?_of_block (a := ⟨n, o, none⟩) hb
 have hf : ∀ o, w'.frozen? ⟨n, o, none⟩ = w.frozen? ⟨n, o, none⟩ := fun o => World.frozen?_of_block (a := ⟨n, o, none⟩) hb
 obtain ⟨c0, c1, c2, c3, c4, c5, f0, f1, f2, f3, f4, f5⟩ := h
 exact ⟨(hc _).trans c0, (hc _).trans c1, (hc _).trans c2, (hc _).trans c3, (hc _).trans c4, (hc _).trans c5, (hf _).trans f0, (hf _).trans f1, (hf _).trans f2, (hf _).trans f3, (hf _).trans f4, (hf _).trans f5⟩
theorem take_snoc {L : List Item} {n : Nat} {x : Item} (hx : L[n]? = some x) : L.take (n + 1) = L.take n ++ [x] := by
 rw [List.take_add_one, hx]; rfl
theorem goodOf_yes {l : List Item} {x : Item} (h : x.code = 0) : goodOf (l ++ [x]) = goodOf l ++ [x] := by simp [goodOf, h]
theorem goodOf_no {l : List Item} {x : Item} (h : x.code ≠ 0) : goodOf (l ++ [x]) = goodOf l := by simp [goodOf, h]
theorem badOf_yes {l : List Item} {x : Item} (h : x.code = 0) : badOf (l ++ [x]) = badOf l := by simp [badOf, h]
theorem badOf_no {l : List Item} {x : Item} (h : x.code ≠ 0) : badOf (l ++ [x]) = (x.code, x.place) := by simp [badOf, h]
theorem grown_trans {w w' w2 : World} {row : Option Nat} (h : w.grownBy w' row) (k : w'.grownBy w2 row) : w.grownBy w2 row :=
 ⟨k.os.trans h.os, k.tape.trans h.tape, k.output.trans h.output, Nat.le_trans h.size k.size, fun j hj hr => (k.block j (Nat.lt_of_lt_of_le hj h.size) hr).trans (h.block j hj hr)⟩
theorem grown_set (w : World) (n o : Nat) (v : Value) : w.grownBy (w.setCell ⟨n, o, none⟩ v) (some n) := by
 exact ⟨rfl, rfl, rfl, (by simp), fun j _ hr => Below.heap_setCell _ _ _ j (fun e => hr (by rw [e]))⟩
theorem flat_snoc (l : List Item) (x : Item) : flatToks (l ++ [x]) = flatToks l ++ tokCells x := by simp [flatToks]
theorem tokW_bad {c : Nat} {L : List Item} {m n b : Nat} {sl : Value} {w : World} {x : Item} (h : TokW c L m n b sl w) (hx : L[n]? = some x) (hcode : x.code ≠ 0) (z0 z1 z2 z3 : Value) (o : Obj) :
   TokW c L m (n + 1) b sl (((((((w.setCell ⟨b, 0, none⟩ z0).setCell ⟨b, 1, none⟩ z1).setCell ⟨b, 2, none⟩ z2).setCell ⟨b, 3, none⟩ z3).setCell ⟨b, 4, none⟩ (.int .i64 x.code)).setCell ⟨b, 5, none⟩ (.int .i64 x.place)).alloc o) := by
 obtain ⟨hch, hown, ⟨y0, y1, y2, y3, hbad⟩, hlt, hltc⟩ := h
 have hs := hbad.set z0 z1 z2 z3 (.int .i64 x.code) (.int .i64 x.place)
 have hg : w.grownBy ((((((w.setCell ⟨b, 0, none⟩ z0).setCell ⟨b, 1, none⟩ z1).setCell ⟨b, 2, none⟩ z2).setCell ⟨b, 3, none⟩ z3).setCell ⟨b, 4, none⟩ (.int .i64 x.code)).setCell ⟨b, 5, none⟩ (.int .i64 x.place)) (some b) :=
   grown_trans (grown_trans (grown_trans (grown_trans (grown_trans (grown_set _ _ _ _) (grown_set _ _ _ _)) (grown_set _ _ _ _)) (grown_set _ _ _ _)) (grown_set _ _ _ _)) (grown_set _ _ _ _)
 generalize ((((((w.setCell ⟨b, 0, none⟩ z0).setCell ⟨b, 1, none⟩ z1).setCell ⟨b, 2, none⟩ z2).setCell ⟨b, 3, none⟩ z3).setCell ⟨b, 4, none⟩ (.int .i64 x.code)).setCell ⟨b, 5, none⟩ (.int .i64 x.place)) = W at hs hg
 have hlt2 : b < W.heap.size := Nat.lt_of_lt_of_le hlt hg.size
 have hga := World.grownBy_alloc W o none
 refine ⟨?_, ?_, ?_, by simp; omega, hltc⟩
 · rw [hga.block c (by omega) (by simp), hg.block c (by omega) (by simp; omega)]
   exact hch
 · rw [take_snoc hx, goodOf_no hcode]
   refine World.ownsRow.alloc (hown.kept hg ?_) o
   cases hv : sl.ownBlock with
   | none => exact .inl rfl
   | some k => right; have := hown.lt k hv; simp; omega
 · rw [take_snoc hx, badOf_no hcode]
   exact ⟨_, _, _, _, hs.grown hga hlt2 (by simp)⟩
theorem tokW_good {c : Nat} {L : List Item} {m n b : Nat} {sl : Value} {w : World} {x : Item} (h : TokW c L m n b sl w) (hx : L[n]? = some x) (hcode : x.code = 0) (o1 o2 : Obj) {v' : Value} {w1 : World}
   (hown' : w1.ownsRow (b + 1) 74 4 v' ((goodOf (L.take n)).length + 1) (flatToks (goodOf (L.take n)) ++ tokCells x)) (hgrow : ((w.alloc o1).alloc o2).grownBy w1 sl.ownBlock) : TokW c L m (n + 1) b v' w1 := by
 obtain ⟨hch, hown, ⟨y0, y1, y2, y3, hbad⟩, hlt, hltc⟩ := h
 have h1 := World.grownBy_alloc w o1 sl.ownBlock
 have h2 := World.grownBy_alloc (w.alloc o1) o2 sl.ownBlock
 have hg := grown_trans (grown_trans h1 h2) hgrow
 have hne : ∀ y, y <= b -> some y ≠ sl.ownBlock := by
   intro y hy he
   have := hown.lt y he.symm
   omega
 refine ⟨?_, ?_, ?_, Nat.lt_of_lt_of_le hlt hg.size, hltc⟩
 · rw [hg.block c (by omega) (hne c (by omega))]; exact hch
 · rw [take_snoc hx, goodOf_yes hcode, flat_snoc]
   simpa using hown'
 · rw [take_snoc hx, badOf_yes hcode]
   exact ⟨_, _, _, _, hbad.grown hg hlt (hne b (Nat.le_refl _))⟩
theorem tok_item (s : ByteArray) (c b : Nat) (L : List Item) (n : Nat) (x : Item) (hx : L[n]? = some x) (hL : L.length <= 8193) (sl : Value) (w : World) (hw : TokW c L (n + 1) n b sl w) (t0 t1 t2 t3 t4 t5 t8 t9 t10 t11 t12 t13 t14 t18 t19 t20 t21 t22 t23 t24 t25 t26 t27 t28 t29 t30 t31 t32 t33 t34 t35 : Value) :
   tkItem.wp Tryd.prog (fun e a w' => e = .normal /\ ∃ sl', TokA s c b sl' a /\ TokW c L (n + 1) (n + 1) b sl' w') { tmps := #[t0, t1, t2, t3, t4, t5, sl, .pointer (some ⟨b, 0, none⟩), t8, t9, t10, t11, t12, t13, t14, .chan (some c), .tuple #[x.v, .bool true], .bool true, t18, t19, t20, t21, t22, t23, t24, t25, t26, t27, t28, t29, t30, t31, t32, t33, t34, t35], defers := [] } w := by
 obtain ⟨i0, hi, hz0, hz1, hz2⟩ := info_parts info140
 obtain ⟨hch, hown, ⟨y0, y1, y2, y3, hbad⟩, hlt, hltc⟩ := hw
 have q0 := hbad.c0
 have q1 := hbad.c1
 have q2 := hbad.c2
 have q3 := hbad.c3
 have q4 := hbad.c4
 have q5 := hbad.c5
 have f0 := hbad.f0
 have f1 := hbad.f1
 have f2 := hbad.f2
 have f3 := hbad.f3
 have f4 := hbad.f4
 have f5 := hbad.f5
 have HB := Lib.hid hbad
 have HO := Lib.hid hown
 have HC := Lib.hid hch
 have HX := Lib.hid hx
 clear hbad hown hch hx
 simp only [tkItem, tkLoop, tk4, tk2, tk0, seqR, seqL, unLoop, unBlock, Tryd.f18, Option.getD_some, Item.v, itemV]
 by_cases hcode : x.code = 0
 · have k1 : (x.code == 0) = true := by simp [hcode]
   have k2 : (x.code != 0) = false := by simp [hcode]
   have HK := Lib.hid hcode
   clear hcode
   have hl4 := flatToks_length (goodOf (L.take n))
   have hlg : (goodOf (L.take n)).length <= 8193 := by
     have h1 : (goodOf (L.take n)).length <= (L.take n).length := List.length_filter_le _ _
     have h2 : (L.take n).length <= L.length := by simp; omega
     omega
   go_wp2_with (at_builtin; refine wpList_append_own _ rfl (.tmp 23) (.tmp 26) 51 rfl (b + 1) 74 i0 _ 4 40 Tryd.underlying51 hi hz0 hz1 hz2 rfl (by decide) _ _ _ rfl ((HO.out.alloc _).alloc _) ⟨w.heap.size + 1, 0, none⟩ 1 1 (tokCells x) rfl rfl ?c1 ?c2 ?c3 ?c4 ?c5 ?_)
   case c1 =>
     intro j u hj
     match j, hj with
     | 0, hj => simp [tokCells] at hj; subst hj; simp [go_sem, Addr.add]
     | 1, hj => simp [tokCells] at hj; subst hj; simp [go_sem, Addr.add]
     | 2, hj => simp [tokCells] at hj; subst hj; simp [go_sem, Addr.add]
     | 3, hj => simp [tokCells] at hj; subst hj; simp [go_sem, Addr.add]
     | j + 4, hj => simp [tokCells] at hj
   case c2 => intro u hu; simp [tokCells] at hu; rcases hu with rfl | rfl | rfl | rfl <;> rfl
   case c3 => unfold maxLen; omega
   case c4 => omega
   case c5 => simp; omega
   intro v' w1 hown' hgrow _
   have HW : TokW c L (n + 1) n b sl w := ⟨HC.out, HO.out, ⟨y0, y1, y2, y3, HB.out⟩, hlt, hltc⟩
   have R := tokW_good HW HX.out HK.out _ _ hown' hgrow
   clear hown' hgrow hl4 hlg
   go_wp2
   exact ⟨v', ⟨rfl, rfl, rfl, rfl, rfl⟩, R⟩
 · have k1 : (x.code == 0) = false := by simp [hcode]
   have k2 : (x.code != 0) = true := by simp [hcode]
   have HK := Lib.hid hcode
   clear hcode
   go_wp2
   have HW : TokW c L (n + 1) n b sl w := ⟨HC.out, HO.out, ⟨y0, y1, y2, y3, HB.out⟩, hlt, hltc⟩
   exact ⟨sl, ⟨rfl, rfl, rfl, rfl, rfl⟩, tokW_bad HW HX.out HK.out _ _ _ _ _⟩
end Go.Proofs.YtonmcakdofbjiaaDoor
namespace Go.Proofs.YtonmcakdofbjiaaDoor
open Go.RowKit Go.Bsd Go.Conc
def goAct (s : ByteArray) (c : Nat) : Act :=
 { tmps := #[.string s, undef, .slice none 0 0, .int .i64 0, .int .i64 0, .chan (some c), undef, undef, undef, .string s, .int .i64 s.size, .bool false, .chan (some c), .string s, .chan (some c), undef, undef, undef, undef, undef, undef, undef, undef, undef, undef, undef, undef, undef, undef, undef, undef, undef, undef, undef, undef, undef], defers := [] }
noncomputable def frc (s : ByteArray) (c : Nat) : Frame := (base0 18).at (goAct s c) [.inRegion (regOps tkGo) [], .code tk4]
noncomputable def ops8 : Array Oper := regOps (seqL tkLoop)
noncomputable def loopK : List Go.Item := [.inLoop tkLoop, .inBlock 0, .code tkEnd]
noncomputable def recvK : List Go.Item := .inRegion ops8 [0, 1] :: .code tkItem :: loopK
def Xc (s : ByteArray) (f : FuncId) (c : Nat) (g : Goroutine) (v : World) : Prop :=
 ∃ a b sl, g = Go.Conc.G ((base0 18).at a recvK) [bottom f c] /\ TokA s c b sl a /\ TokW c (pieces s) (pieces s).length (pieces s).length b sl v
theorem evalT (a : Act) (n : Nat) : a.eval (.tmp n) = a.tmps.getD n undef := rfl
theorem u136 : Tryd.prog.underlying 70 = some (.chan .both 76) := by kernel_rfl
theorem info142 : (Tryd.prog.info? 76).map (fun i => (i.zero, i.size, i.bytes)) = some (some (.agg #[.int .i64 0, .string ⟨#[]⟩, .int .i64 0, .int .i64 0, .int .i64 0, .int .i64 0]), 6, 56) := by kernel_rfl
def zeroItem : Value := .agg #[.int .i64 0, .string ⟨#[]⟩, .int .i64 0, .int .i64 0, .int .i64 0, .int .i64 0]
theorem recv_comm (s : ByteArray) (c b : Nat) (sl : Value) (a : Act) (cs : List Frame) (ha : TokA s c b sl a) (w : World) :
   stepG Tryd.prog true (Go.Conc.G ((base0 18).at a recvK) cs) w = .comm (Go.Conc.G ((base0 18).at a recvK) cs) #[rcase c zeroItem] true (.recv true) w #[] := by
 have h15 : a.tmps.getD 15 undef = .chan (some c) := by rw [Array.getD_eq_getD_getElem?, ha.s15]; rfl
 obtain ⟨i0, hi, hz0, hz1, hz2⟩ := info_parts info142
 unfold recvK
 rw [stepG_comm (o := { dst := some 16, op := Op.recv 70 (Operand.tmp 15) true, type := 0, pos := "lex.go:119", after := #[], guard := none }) (cases := #[rcase c zeroItem]) (blocking := true) (shape := .recv true) (w' := w) rfl rfl (by simp [base0])]
 · have e : (execOp a.eval { dst := some 16, op := Op.recv 70 (Operand.tmp 15) true, type := 0, pos := "lex.go:119", after := #[], guard := none }).events Tryd.prog w #[] = #[] := by
     unfold execOp
     simp only [evalT, h15]
     simp [run_underlying u136, zeroValue, typeInfo, hi, hz0, rcase]
   rw [listed_none e]
 · unfold execOp
   simp only [evalT, h15]
   simp [run_underlying u136, zeroValue, typeInfo, hi, hz0, rcase, zeroItem]
theorem extract_pair (a : Act) (v u : Value) (n : Nat) (w : World) (o : Oper) (ho : o.op = .extract (.tmp n) 1) (h : a.tmps.getD n undef = .tuple #[v, u]) : (execOp a.eval o).run Tryd.prog w = .ok (.value u) w := by
 unfold execOp
 rw [ho]
 simp only [evalT, h]
 rfl
theorem arrives_normal {e : Exit} {a a' : Act} {w w' : World} {fr : Frame} {b : Frame} {k : List Go.Item} {cs : List Frame} (he : e = .normal) (h : Arrives Tryd.prog (lone fr cs w) b k cs e a' w') : Steps Tryd.prog (lone fr cs w) (lone (b.at a' k) cs w') := by
 subst he
 exact h
theorem tokA_put {s : ByteArray} {c b : Nat} {sl : Value} {a : Act} (h : TokA s c b sl a) (v u : Value) : TokA s c b sl ((a.put (some 16) v).put (some 17) u) := by
 obtain ⟨h1, h2, h3, h4, h5⟩ := h
 refine ⟨by simp [Act.put, h1], ?_, ?_, ?_, h5⟩
 · simp [Act.put, h2]
 · simp [Act.put, h3]
 · simp [Act.put, h4]
theorem tokA_open {s : ByteArray} {c b : Nat} {sl : Value} {a : Act} (h : TokA s c b sl a) (v u : Value) : ∃ t0 t1 t2 t3 t4 t5 t8 t9 t10 t11 t12 t13 t14 t18 t19 t20 t21 t22 t23 t24 t25 t26 t27 t28 t29 t30 t31 t32 t33 t34 t35 : Value, ((a.put (some 16) v).put (some 17) u) = { tmps := #[t0, t1, t2, t3, t4, t5, sl, .pointer (some ⟨b, 0, none⟩), t8, t9, t10, t11, t12, t13, t14, .chan (some c), v, u, t18, t19, t20, t21, t22, t23, t24, t25, t26, t27, t28, t29, t30, t31, t32, t33, t34, t35], defers := [] } := by
 have h' := tokA_put h v u
 obtain ⟨t0, t1, t2, t3, t4, t5, t6, t7, t8, t9, t10, t11, t12, t13, t14, t15, t16, t17, t18, t19, t20, t21, t22, t23, t24, t25, t26, t27, t28, t29, t30, t31, t32, t33, t34, t35, e⟩ := arr36 _ h'.size
 have h1 := h'.s6
 have h2 := h'.s7
 have h3 := h'.s15
 have h4 : ((a.put (some 16) v).put (some 17) u).tmps[16]? = some v := by simp [Act.put, h.size]
 have h5 : ((a.put (some 16) v).put (some 17) u).tmps[17]? = some u := by simp [Act.put, h.size]
 have h6 := h'.defers
 rw [e] at h1 h2 h3 h4 h5
 simp at h1 h2 h3 h4 h5
 refine ⟨t0, t1, t2, t3, t4, t5, t8, t9, t10, t11, t12, t13, t14, t18, t19, t20, t21, t22, t23, t24, t25, t26, t27, t28, t29, t30, t31, t32, t33, t34, t35, ?_⟩
 subst h1; subst h2; subst h3; subst h4; subst h5
 generalize (a.put (some 16) t16).put (some 17) t17 = z at e h6
 obtain ⟨z1, z2⟩ := z
 simp only at e h6
 rw [e, h6]
theorem tok_step (s : ByteArray) (c b : Nat) (L : List Item) (n : Nat) (hn : n < L.length) (hL : L.length <= 8193) (sl : Value) (a : Act) (w : World) (cs : List Frame) (ha : TokA s c b sl a) (hw : TokW c L n n b sl w) :
   ∃ a' sl' w', TokA s c b sl' a' /\ TokW c L (n + 1) (n + 1) b sl' w' /\ Steps Tryd.prog (lone ((base0 18).at a recvK) cs w) (lone ((base0 18).at a' recvK) cs w') := by
 obtain ⟨x, hx⟩ : ∃ x, L[n]? = some x := ⟨_, List.getElem?_eq_getElem hn⟩
 have hdrop : L.drop n = x :: L.drop (n + 1) := by
   have := List.drop_eq_getElem_cons hn
   rw [List.getElem?_eq_getElem hn] at hx
   rw [this, Option.some.inj hx]
 have s1 := step_lone_recv_buf (P := Tryd.prog) (fr := (base0 18).at a recvK) (cs := cs) true (recv_comm s c b sl a cs ha w) hw.chan (by rw [hdrop]; simp)
 rw [hdrop] at s1
 have hg : got true ((((x :: L.drop (n + 1)).map Item.v).toArray).getD 0 undef) true = .tuple #[x.v, .bool true] := by simp [got]
 have hb : (((x :: L.drop (n + 1)).map Item.v).toArray).extract 1 (((x :: L.drop (n + 1)).map Item.v).toArray).size = ((L.drop (n + 1)).map Item.v).toArray := by
   simp
   exact List.take_of_length_le (by simp)
 rw [hg, hb] at s1
 have hfin : ((base0 18).at a recvK).finish (.tuple #[x.v, .bool true]) = (base0 18).at (a.put (some 16) (.tuple #[x.v, .bool true])) (.inRegion ops8 [1] :: .code tkItem :: loopK) := by
   unfold recvK
   rw [Frame.finish_at]
   rfl
 rw [hfin] at s1
 have s2 := lone_value (P := Tryd.prog) (b := base0 18) (a := a.put (some 16) (.tuple #[x.v, .bool true])) (k := .code tkItem :: loopK) (cs := cs) (ops := ops8) (i := 1) (rest := []) (w := w.setChan c (L.length + 1) ((L.drop (n + 1)).map Item.v).toArray false L.length (n + 1) false) (w' := w.setChan c (L.length + 1) ((L.drop (n + 1)).map Item.v).toArray false L.length (n + 1) false) (v := .bool true)
   (o := { dst := some 17, op := Op.extract (Operand.tmp 16) 1, type := 4, pos := "lex.go:119", after := #[{ on := 0, ground := Ground.data }], guard := none }) rfl rfl (extract_pair _ x.v (.bool true) 16 _ _ rfl (by simp [Act.put, ha.size]))
 obtain ⟨t0, t1, t2, t3, t4, t5, t8, t9, t10, t11, t12, t13, t14, t18, t19, t20, t21, t22, t23, t24, t25, t26, t27, t28, t29, t30, t31, t32, t33, t34, t35, he⟩ := tokA_open ha (.tuple #[x.v, .bool true]) (.bool true)
 have hcl : c < w.heap.size := by have := hw.lt; have := hw.ltc; omega
 have hw1 : TokW c L (n + 1) n b sl (w.setChan c (L.length + 1) ((L.drop (n + 1)).map Item.v).toArray false L.length (n + 1) false) := by
   have hg : w.grownBy (w.setChan c (L.length + 1) ((L.drop (n + 1)).map Item.v).toArray false L.length (n + 1) false) (some c) := by
     refine ⟨rfl, rfl, rfl, by simp [World.setChan], fun j hj hr => ?_⟩
     show (w.heap.setIfInBounds c _)[j]? = _
     rw [Array.getElem?_setIfInBounds_ne (fun e => hr (by rw [e]))]
   obtain ⟨h1, h2, ⟨y0, y1, y2, y3, h3⟩, h4, h5⟩ := hw
   refine ⟨heap_setChan w c _ _ _ _ _ _ hcl, h2.kept hg ?_, ⟨y0, y1, y2, y3, h3.grown hg h4 (by simp; omega)⟩, Nat.lt_of_lt_of_le h4 hg.size, h5⟩
   cases hv : sl.ownBlock with
   | none => exact .inl rfl
   | some k => right; have := h2.lt k hv; simp; omega
 have hitem := tok_item s c b L n x hx hL sl _ hw1 t0 t1 t2 t3 t4 t5 t8 t9 t10 t11 t12 t13 t14 t18 t19 t20 t21 t22 t23 t24 t25 t26 t27 t28 t29 t30 t31 t32 t33 t34 t35
 rw [<- he] at hitem
 obtain ⟨e, a', w', ⟨he1, sl', ha', hw'⟩, harr⟩ := hitem (base0 18) loopK cs
 have s3 := arrives_normal (a := a') he1 harr
 refine ⟨a', sl', w', ha', hw', ?_⟩
 refine Steps.head s1 (Steps.head s2 (Steps.head step_region_end (Steps.trans s3 ?_)))
 refine Steps.head step_inLoop ?_
 show Steps Tryd.prog (lone ((base0 18).at a' (.code (.seq (seqL tkLoop) tkItem) :: loopK)) cs w') _
 refine Steps.head step_seq ?_
 exact Steps.one (step_region (id := 8))
theorem tok_all (s : ByteArray) (c b : Nat) (L : List Item) (hL : L.length <= 8193) (cs : List Frame) : ∀ (m n : Nat) (sl : Value) (a : Act) (w : World), n + m = L.length -> TokA s c b sl a -> TokW c L n n b sl w ->
   ∃ a' sl' w', TokA s c b sl' a' /\ TokW c L L.length L.length b sl' w' /\ Steps Tryd.prog (lone ((base0 18).at a recvK) cs w) (lone ((base0 18).at a' recvK) cs w') := by
 intro m
 induction m with
 | zero =>
   intro n sl a w hn ha hw
   obtain rfl : n = L.length := by omega
   exact ⟨a, sl, w, ha, hw, Steps.refl _ _⟩
 | succ m ih =>
   intro n sl a w hn ha hw
   obtain ⟨a1, sl1, w1, h1, h2, h3⟩ := tok_step s c b L n (by omega) hL sl a w cs ha hw
   obtain ⟨a2, sl2, w2, k1, k2, k3⟩ := ih (n + 1) sl1 a1 w1 (by omega) h1 h2
   exact ⟨a2, sl2, w2, k1, k2, h3.trans k3⟩
/-! ### from the go statement to the loop -/
noncomputable def r5 : Code := seqL tk4
noncomputable def r6 : Code := seqL (seqR tk4)
noncomputable def r7 : Code := seqL (seqL (seqR (seqR tk4)))
theorem tk_into (s : ByteArray) (c : Nat) (w : World) (cs : List Frame) :
   ∃ a', TokA s c w.heap.size (.slice none 0 0) a' /\ Steps Tryd.prog (lone (frc s c) cs w) (lone ((base0 18).at a' recvK) cs (w.alloc (.cells #[.int .i64 0, .string ⟨#[]⟩, .int .i64 0, .int .i64 0, .int .i64 0, .int .i64 0] 76))) := by
 have h5 : r5.wp Tryd.prog (fun e a w' => e = .normal /\ w' = w /\ a = (goAct s c).put (some 6) (.slice none 0 0)) (goAct s c) w := by
   simp only [r5, tk4, tk2, tk0, seqR, seqL, Tryd.f18, Option.getD_some, goAct]
   go_wp2
 have h6 : r6.wp Tryd.prog (fun e a w' => e = .normal /\ w' = w.alloc (.cells #[.int .i64 0, .string ⟨#[]⟩, .int .i64 0, .int .i64 0, .int .i64 0, .int .i64 0] 76) /\ a = ((goAct s c).put (some 6) (.slice none 0 0)).put (some 7) (.pointer (some ⟨w.heap.size, 0, none⟩))) ((goAct s c).put (some 6) (.slice none 0 0)) w := by
   simp only [r6, tk4, tk2, tk0, seqR, seqL, Tryd.f18, Option.getD_some, goAct]
   go_wp2
 have h7 : ∀ w', r7.wp Tryd.prog (fun e a w'' => e = .normal /\ w'' = w' /\ a = (((goAct s c).put (some 6) (.slice none 0 0)).put (some 7) (.pointer (some ⟨w.heap.size, 0, none⟩))).put (some 15) (.chan (some c))) (((goAct s c).put (some 6) (.slice none 0 0)).put (some 7) (.pointer (some ⟨w.heap.size, 0, none⟩))) w' := by
   intro w'
   simp only [r7, tk4, tk2, tk0, seqR, seqL, Tryd.f18, Option.getD_some, goAct]
   go_wp2
 refine ⟨(((goAct s c).put (some 6) (.slice none 0 0)).put (some 7) (.pointer (some ⟨w.heap.size, 0, none⟩))).put (some 15) (.chan (some c)), ⟨rfl, rfl, rfl, rfl, rfl⟩, ?_⟩
 refine Steps.head step_region_end ?_
 show Steps Tryd.prog (lone ((base0 18).at (goAct s c) [.code (.seq r5 (seqR tk4))]) cs w) _
 refine Steps.head step_seq ?_
 obtain ⟨e, a', w', ⟨he, rfl, rfl⟩, harr⟩ := h5 (base0 18) [.code (seqR tk4)] cs
 refine Steps.trans (arrives_normal (a := goAct s c) he harr) ?_
 show Steps Tryd.prog (lone ((base0 18).at _ [.code (.seq r6 (seqR (seqR tk4)))]) cs _) _
 refine Steps.head step_seq ?_
 obtain ⟨e, a', w', ⟨he, rfl, rfl⟩, harr⟩ := h6 (base0 18) [.code (seqR (seqR tk4))] cs
 refine Steps.trans (arrives_normal (a := goAct s c) he harr) ?_
 show Steps Tryd.prog (lone ((base0 18).at _ [.code (.seq (.seq r7 (.block 0 (.loop tkLoop))) tkEnd)]) cs _) _
 refine Steps.head step_seq (Steps.head step_seq ?_)
 obtain ⟨e, a', w', ⟨he, rfl, rfl⟩, harr⟩ := h7 _ (base0 18) [.code (.block 0 (.loop tkLoop)), .code tkEnd] cs
 refine Steps.trans (arrives_normal (a := goAct s c) he harr) ?_
 refine Steps.head step_block (Steps.head step_loop ?_)
 show Steps Tryd.prog (lone ((base0 18).at _ (.code (.seq (seqL tkLoop) tkItem) :: loopK)) cs _) _
 exact Steps.head step_seq (Steps.one (step_region (id := 8)))
theorem tok_lone (s : ByteArray) (f : FuncId) (c : Nat) (W : World) (hs : (pieces s).length <= 8193) (hc : c < W.heap.size) :
   Lone Tryd.prog (Xc s f c) (Go.Conc.G (frc s c) [bottom f c]) (put W c (.chan ((pieces s).length + 1) ((pieces s).map Item.v).toArray false (pieces s).length 0 false)) := by
 intro T d
 have hch : (re (put W c (.chan ((pieces s).length + 1) ((pieces s).map Item.v).toArray false (pieces s).length 0 false)) T d).heap[c]? = some (.chan ((pieces s).length + 1) ((pieces s).map Item.v).toArray false (pieces s).length 0 false) := put_at hc
 have hsz : (re (put W c (.chan ((pieces s).length + 1) ((pieces s).map Item.v).toArray false (pieces s).length 0 false)) T d).heap.size = W.heap.size := put_size _ _ _
 generalize re (put W c (.chan ((pieces s).length + 1) ((pieces s).map Item.v).toArray false (pieces s).length 0 false)) T d = w at hch hsz
 obtain ⟨a, ha, h1⟩ := tk_into s c w [bottom f c]
 have hw : TokW c (pieces s) 0 0 w.heap.size (.slice none 0 0) (w.alloc (.cells #[.int .i64 0, .string ⟨#[]⟩, .int .i64 0, .int .i64 0, .int .i64 0, .int .i64 0] 76)) := by
   refine ⟨?_, World.ownsRow_nil _ _ _ _, ⟨_, _, _, _, six_new _ _ _ _ _ _ _ _⟩, by simp, by omega⟩
   rw [(World.grownBy_alloc w _ none).block c (by omega) (by simp)]
   exact hch
 obtain ⟨a', sl', w', h2, h3, h4⟩ := tok_all s c _ (pieces s) hs [bottom f c] _ 0 _ _ _ (Nat.zero_add _) ha hw
 obtain ⟨n, hn⟩ := h1.trans h4
 exact ⟨n, _, w', hn, rfl, a', _, sl', rfl, h2, h3⟩
end Go.Proofs.YtonmcakdofbjiaaDoor
namespace Go.Proofs.YtonmcakdofbjiaaDoor
open Go.RowKit Go.Bsd Go.Conc
structure Kin (w w' : World) : Prop where
 os : w'.os = w.os
 out : w'.output = w.output
 size : w.heap.size <= w'.heap.size
 block : ∀ k, k < w.heap.size -> w'.heap[k]? = w.heap[k]?
theorem Kin.refl (w : World) : Kin w w := ⟨rfl, rfl, Nat.le_refl _, fun _ _ => rfl⟩
theorem Kin.trans {a b c : World} (h : Kin a b) (k : Kin b c) : Kin a c := ⟨k.os.trans h.os, k.out.trans h.out, Nat.le_trans h.size k.size, fun j hj => (k.block j (Nat.lt_of_lt_of_le hj h.size)).trans (h.block j hj)⟩
theorem Kin.cell {w w' : World} (h : Kin w w') {n o : Nat} (hn : n < w.heap.size) : w'.cell? ⟨n, o, none⟩ = w.cell? ⟨n, o, none⟩ := World.cell?_of_block (a := ⟨n, o, none⟩) (h.block n hn)
theorem Kin.frozen {w w' : World} (h : Kin w w') {n o : Nat} (hn : n < w.heap.size) : w'.frozen? ⟨n, o, none⟩ = w.frozen? ⟨n, o, none⟩ := World.frozen?_of_block (a := ⟨n, o, none⟩) (h.block n hn)
section
variable {F : FuncId -> Prop} {ρ : Rn} {v v' : World}
theorem cell_get {w : World} {r o : Nat} {x : Value} (h : w.cell? ⟨r, o, none⟩ = some x) : ∃ cs t f, w.heap[r]? = some (.cells cs t f) /\ cs[o]? = some x := by
 unfold World.cell? at h
 simp only at h
 split at h
 · rename_i cs t f hh
   exact ⟨cs, t, f, hh, h⟩
 · cases h
theorem cell_put {w : World} {r o : Nat} {x : Value} {cs : Array Value} {t : TypeId} {f : Nat × Nat} (h : w.heap[r]? = some (.cells cs t f)) (hx : cs[o]? = some x) : w.cell? ⟨r, o, none⟩ = some x := by
 unfold World.cell?
 simp only [h]
 exact hx
theorem cell_rel (hw : WRel F ρ v v') {r r' o : Nat} (hr : ρ r r') {x : Value} (h : v.cell? ⟨r, o, none⟩ = some x) : ∃ y, v'.cell? ⟨r', o, none⟩ = some y /\ VRel F ρ x y := by
 obtain ⟨cs, t, f, h1, h2⟩ := cell_get h
 obtain ⟨o1, o2, k1, k2, k3⟩ := hw r r' hr
 rw [h1] at k1
 cases k1
 cases k3 with
 | @cells _ cs' _ _ hh =>
   have hi : o < cs.size := (Array.getElem?_eq_some_iff.1 h2).1
   have hi' : o < cs'.size := hh.size ▸ hi
   exact ⟨cs'[o], cell_put k2 (Array.getElem?_eq_getElem hi'), hh.all o _ _ h2 (Array.getElem?_eq_getElem hi')⟩
theorem cell_int (hw : WRel F ρ v v') {r r' o : Nat} (hr : ρ r r') {k : IntKind} {n : Int} (h : v.cell? ⟨r, o, none⟩ = some (.int k n)) : v'.cell? ⟨r', o, none⟩ = some (.int k n) := by
 obtain ⟨y, h1, h2⟩ := cell_rel hw hr h
 cases h2
 exact h1
theorem owns_rel (hw : WRel F ρ v v') {base base' : Nat} {e : TypeId} {size : Nat} {x y : Value} {n : Nat} {xs : List Value} (h : v.ownsRow base e size x n xs) (hx : VRel F ρ x y) (hp : ∀ u ∈ xs, PlainV u) (hb : ∀ a b, ρ a b -> base' <= b) : v'.ownsRow base' e size y n xs := by
 refine ⟨h.1, ?_⟩
 rcases h.2 with ⟨rfl, h2⟩ | ⟨g, cap, cur, rfl, h2, h3, h4, h5, h6, h7⟩
 · cases hx with
   | slice _ _ ha =>
     cases ha
     exact .inl ⟨rfl, h2⟩
 · cases hx with
   | slice _ _ ha =>
     cases ha with
     | @some a b hab =>
       obtain ⟨k1, k2, k3⟩ := hab
       obtain ⟨b1, b2, b3⟩ := b
       simp only at k1 k2 k3
       subst k2; subst k3
       obtain ⟨o1, o2, q1, q2, q3⟩ := hw g b1 k1
       rw [h3] at q1
       cases q1
       cases q3 with
       | @cells _ cs' _ _ hh =>
         refine .inr ⟨b1, cap, cs', rfl, hb _ _ k1, q2, h4, h5, hh.size ▸ h6, ?_⟩
         rw [<- h7]
         apply List.ext_getElem?
         intro i
         rw [List.getElem?_take, List.getElem?_take]
         by_cases hi : i < n * size
         · rw [if_pos hi, if_pos hi]
           have hlen : i < cur.size := by
             rw [h6]
             exact Nat.lt_of_lt_of_le hi (Nat.mul_le_mul_right _ h4)
           have hlen' : i < cs'.size := hh.size ▸ hlen
           have e1 : cur.toList[i]? = some cur[i] := by simp [hlen]
           have e2 : cs'.toList[i]? = some cs'[i] := by simp [hlen']
           rw [e1, e2]
           have hm : cur[i] ∈ xs := by
             rw [<- h7]
             refine List.mem_of_getElem? (i := i) ?_
             rw [List.getElem?_take, if_pos hi, e1]
           exact congrArg some ((hp _ hm).fix F ρ _ (hh.all i _ _ (Array.getElem?_eq_getElem hlen) (Array.getElem?_eq_getElem hlen')))
         · rw [if_neg hi, if_neg hi]
end
/-! ### the producer's first steps -/
noncomputable def cutOps : Array Oper := regOps (seqL f77c)
noncomputable def b77 : Frame := { (default : Frame) with fn := 30, kind := .deferred }
def cut0 (s : ByteArray) (c : Nat) : Act := { tmps := #[.string s, .chan (some c)] ++ Array.replicate 44 undef, defers := [] }
def cut1 (s : ByteArray) (c : Nat) : Act := { tmps := (cutAct s c).tmps, defers := [] }
def closeD (c : Nat) : Deferred := closeOf #[86] 0 #[false] c
noncomputable def frp' (s : ByteArray) (c : Nat) : Frame := b77.at { tmps := (cutAct s c).tmps, defers := [closeD c] } [.code cutRest]
def cutCall (s : ByteArray) (c : Nat) : Deferred := { target := .fn (.func 30) #[], args := #[.string s, .chan (some c)] }
section
variable {P : Program} {b : Frame} {a : Act} {k : List Go.Item} {cs : List Frame} {w : World} {ops : Array Oper}
theorem g_seq {x y : Code} : stepG P false (Go.Conc.G (b.at a (.code (.seq x y) :: k)) cs) w = .go (Go.Conc.G (b.at a (.code x :: .code y :: k)) cs) w #[] := by
 simp [stepG, stepG.exec, Frame.at, Go.Conc.G, GStep.after]
theorem g_region {id : Nat} : stepG P false (Go.Conc.G (b.at a (.code (.region id ops false) :: k)) cs) w = .go (Go.Conc.G (b.at a (.inRegion ops (List.range ops.size) :: k)) cs) w #[] := by
 simp [stepG, stepG.exec, Frame.at, Go.Conc.G, GStep.after]
theorem g_region_end : stepG P false (Go.Conc.G (b.at a (.inRegion ops [] :: k)) cs) w = .go (Go.Conc.G (b.at a k) cs) w #[] := by
 simp [stepG, stepG.exec, Frame.at, Go.Conc.G, GStep.after]
theorem g_move {i : Nat} {rest : List Nat} {o : Oper} {v : Value} (hk : b.kind ≠ .early) (ho : ops[i]? = some o) (hw : Region.wanted o (yielded ops a.tmps) = true) (he : execOp a.eval o = pure (.value v)) :
   stepG P false (Go.Conc.G (b.at a (.inRegion ops (i :: rest) :: k)) cs) w = .go (Go.Conc.G (b.at (a.put o.dst v) (.inRegion ops rest :: k)) cs) w #[] := by
 rw [stepG_value ho hw hk (v := v) (w' := w) (by rw [he]; rfl), listed_none (by rw [he]; rfl)]
theorem g_defer {i : Nat} {rest : List Nat} {o : Oper} {d : Deferred} (hk : b.kind ≠ .early) (ho : ops[i]? = some o) (hw : Region.wanted o (yielded ops a.tmps) = true) (he : (execOp a.eval o).runT P w #[] = (.ok (.defer d) w, #[])) :
   stepG P false (Go.Conc.G (b.at a (.inRegion ops (i :: rest) :: k)) cs) w = .go (Go.Conc.G (b.at ({ a with defers := d :: a.defers }.put o.dst undef) (.inRegion ops rest :: k)) cs) w #[] := by
 have hfin : ({ b.at a (.inRegion ops (i :: rest) :: k) with defers := d :: a.defers } : Frame).finish undef = b.at ({ a with defers := d :: a.defers }.put o.dst undef) (.inRegion ops rest :: k) := by
   have e := Frame.finish_at b { a with defers := d :: a.defers } ops i rest k undef
   rw [ho] at e
   exact e
 have hk' : (b.kind == CallKind.early) = false := by simpa using hk
 rw [stepG_oper ho hw, <- hfin]
 have he1 : (execOp a.eval o).run P w = .ok (.defer d) w := by rw [<- Sem.runT_fst (es := #[]), he]
 have he2 : (execOp a.eval o).events P w #[] = #[] := by unfold Sem.events; rw [he]
 simp [stepG.apply, he1, he2, Go.Conc.G, Frame.at, hk', GStep.after, seen_none]
end
theorem pre1 (s : ByteArray) (c : Nat) (w : World) : stepG Tryd.prog false (born Tryd.prog (cutCall s c)) w = .go (Go.Conc.G (b77.at (cut0 s c) [.code f77c]) [under Tryd.prog]) w #[] := by
 have h1 : (Tryd.f30.name = "runtime.NumGoroutine") ↔ False := by simp [Tryd.f30]
 have h2 : (Tryd.f30.body = none) ↔ False := by simp [Tryd.f30]
 have hi : (invoke (.fn (.func 30) #[]) #[.string s, .chan (some c)]).runT Tryd.prog w #[] = (.ok (.enter 30 #[.string s, .chan (some c)]) w, #[]) := by
   simp [invoke, callFunc, Tryd.func30, Sem.runT, h1, h2]
 unfold stepG born
 dsimp only
 unfold unwind
 dsimp only [cutCall]
 unfold callDeferred
 dsimp only
 rw [hi]
 dsimp only
 rw [if_neg (by simp), seen_none]
 unfold Go.Conc.G under GStep.after
 have : Frame.enter Tryd.prog 30 #[.string s, .chan (some c)] .deferred = b77.at (cut0 s c) [.code f77c] := by
   simp [Frame.enter, Frame.at, Tryd.func30, b77, cut0, Tryd.f30, f77c]
 rw [this]
 rfl
theorem pre2 (s : ByteArray) (c : Nat) (w : World) (cs : List Frame) : stepG Tryd.prog false (Go.Conc.G (b77.at (cut0 s c) [.code f77c]) cs) w = .go (Go.Conc.G (b77.at (cut0 s c) [.code (seqL f77c), .code cutRest]) cs) w #[] := by
 exact g_seq
theorem pre3 (s : ByteArray) (c : Nat) (w : World) (cs : List Frame) : stepG Tryd.prog false (Go.Conc.G (b77.at (cut0 s c) [.code (seqL f77c), .code cutRest]) cs) w = .go (Go.Conc.G (b77.at (cut0 s c) [.inRegion cutOps [0, 1], .code cutRest]) cs) w #[] := by
 exact g_region (id := 0)
theorem pre4 (s : ByteArray) (c : Nat) (w : World) (cs : List Frame) : stepG Tryd.prog false (Go.Conc.G (b77.at (cut0 s c) [.inRegion cutOps [0, 1], .code cutRest]) cs) w = .go (Go.Conc.G (b77.at (cut1 s c) [.inRegion cutOps [1], .code cutRest]) cs) w #[] := by
 have e1 : (cut0 s c).put (some 10) (.chan (some c)) = cut1 s c := by
   simp [cut0, cut1, cutAct, Act.put, Array.replicate_succ]
 have e2 : execOp (cut0 s c).eval { dst := some 10, op := Op.move (Operand.tmp 1), type := 86, pos := "lex.go:92", after := #[], guard := none } = pure (.value (.chan (some c))) := by
   simp [execOp, evalT, cut0]
 rw [<- e1]
 exact g_move (o := { dst := some 10, op := Op.move (Operand.tmp 1), type := 86, pos := "lex.go:92", after := #[], guard := none }) (by simp [b77]) rfl rfl e2
theorem pre5 (s : ByteArray) (c : Nat) (w : World) (cs : List Frame) : stepG Tryd.prog false (Go.Conc.G (b77.at (cut1 s c) [.inRegion cutOps [1], .code cutRest]) cs) w = .go (Go.Conc.G (b77.at { tmps := (cutAct s c).tmps, defers := [closeD c] } [.inRegion cutOps [], .code cutRest]) cs) w #[] := by
 have e : (execOp (cut1 s c).eval { dst := none, op := Op.defer { callee := Callee.builtin Builtin.close, args := #[Operand.tmp 10], argTypes := #[86] }, type := 0, pos := "lex.go:92", after := #[{ on := 0, ground := Ground.data }], guard := none }).runT Tryd.prog w #[] = (.ok (.defer (closeD c)) w, #[]) := by
   simp [execOp, resolve, evalT, cut1, cutAct, closeD, closeOf, Sem.runT]
 exact g_defer (o := { dst := none, op := Op.defer { callee := Callee.builtin Builtin.close, args := #[Operand.tmp 10], argTypes := #[86] }, type := 0, pos := "lex.go:92", after := #[{ on := 0, ground := Ground.data }], guard := none }) (d := closeD c) (by simp [b77]) rfl rfl e
theorem pre6 (s : ByteArray) (c : Nat) (w : World) (cs : List Frame) : stepG Tryd.prog false (Go.Conc.G (b77.at { tmps := (cutAct s c).tmps, defers := [closeD c] } [.inRegion cutOps [], .code cutRest]) cs) w = .go (Go.Conc.G (frp' s c) cs) w #[] := by
 exact g_region_end
theorem cut_pre (s : ByteArray) (c : Nat) : Pre Tryd.prog 6 (born Tryd.prog (cutCall s c)) (Go.Conc.G (frp' s c) [under Tryd.prog]) :=
 ⟨rfl, _, pre1 s c, rfl, _, fun w => pre2 s c w _, rfl, _, fun w => pre3 s c w _, rfl, _, fun w => pre4 s c w _, rfl, _, fun w => pre5 s c w _, rfl, _, fun w => pre6 s c w _, rfl⟩
end Go.Proofs.YtonmcakdofbjiaaDoor
namespace Go.Proofs.YtonmcakdofbjiaaDoor
open Go.ChangeShapes Go.WideShapes Go.ChangeAt Go.RowKit Go.Conc
section
variable {H : Type} {enc : TypeId × Value -> H}
theorem returnsInLeavingWide_of_change_and {a : Assume} {C : Checked} {os : Os} {f : FuncId} {fn : Func} {s : ChangeSpec} {conds : List PathCond} {apart fresh handsOn again : Bool} {X : World -> Array Value -> Prop}
   (hX : ∀ (w w' : World) (args : Array Value), w.heap = w'.heap -> X w args -> X w' args)
   (own : ownKnob C.prog.godebug = none) (started : os.Started) (hfn : C.prog.funcs[f]? = some fn)
   (witness : ∃ (w : World) (tape : Tape) (i : Input), w.os = os /\ (w.forCall tape i).Shaped C.prog /\ i.vars = [] /\ Input.okWide C.prog (w.forCall tape i) .any w.heap.size f i /\
     ((s.pre enc C.prog fn conds apart (w.forCall tape i).memory i.args /\ X (w.forCall tape i).memory i.args) /\ sizedMet enc C.prog fn (OpenSpec.ofChange s) apart (w.forCall tape i).memory i.args) /\ a.holds C.prog (lone (Frame.enter C.prog f i.args .normal) [] (w.forCall tape i)))
   (runs : ∀ (W : World) (base : Nat) (args : Array Value) (ds gs : List (DataW H)) (before : List MemPlace),
     (∀ (j : Nat) t v, fn.params[j]? = some t -> args[j]? = some v -> Value.okWide C.prog W .any base t v) ->
     DataW.Whole enc C.prog fn.params.toList s.vars apart W args.toList ds gs before ->
     conds.all (PathCond.test C.prog ⟨fn.params.toList, ds, s.plain.varTypes C.prog, gs⟩) = true ->
     (DataW.weightsEach C.prog (fn.params.toList ++ s.plain.varTypes C.prog) (ds ++ gs)).all (· <= reachBytes) = true -> X W args ->
     a.holds C.prog (lone (Frame.enter C.prog f args .normal) [] W) ->
     ∃ M last o w' t', runNT C.prog (M + 1) (solo (G (Frame.enter C.prog f args .normal) []) W) #[] = (.ended o w', t') /\ runN C.prog M (solo (G (Frame.enter C.prog f args .normal) []) W) = .next last /\
       step C.prog last = .ended o w' /\ Conc.Good C.prog (fun v W' => s.post enc C.prog fn apart fresh handsOn again W args v W') last o w' t') :
   ReturnsInLeavingWide a C os f .any (fun w args => (s.pre enc C.prog fn conds apart w args /\ X w args) /\ sizedMet enc C.prog fn (OpenSpec.ofChange s) apart w args) (s.post enc C.prog fn apart fresh handsOn again) := by
 refine returnsInLeavingWide_of_good own started witness ?_
 intro w tape i _ _ _ hok hpre hholds
 obtain ⟨_, _, _, fn', hfn', _, _, _, _, hval⟩ := hok
 have e : fn' = fn := Option.some.inj (hfn'.symm.trans hfn)
 subst e
 obtain ⟨⟨⟨ds, gs, before, hw, hc⟩, hx⟩, hz⟩ := hpre
 have hw' := DataW.Whole.of_heap (w' := w.forCall tape i) (by rfl) hw
 obtain ⟨M, last, o, w', t', h1, h2, h3, h4⟩ := runs (w.forCall tape i) w.heap.size i.args ds gs before hval hw' hc (hz.weights hw) (hX _ _ _ (by rfl) hx) hholds
 exact ⟨M, last, o, w', t', h1, h2, h3, h4.mono fun v hp => ChangeSpec.post_blind hp⟩
end
theorem own0 : ownKnob Tryd.prog.godebug = none := by kernel_rfl
theorem kept_of_kin {W w' : World} (h : Kin W w') (may : MemPlace -> Prop) : W.keptBut w' may := by
 refine ⟨h.os, h.out, fun i hi => ?_⟩
 rw [h.block i hi]
 split <;> simp_all
theorem holds_tied_goes (Lk : Looks) {p : Pinned} {s : OpenSpec} {c : OpenClaim} (kinds : List LaidKind) (tests : Bool) (har : Bool × String) (lk : Bool)
   (hc : c.holds p s) (hw : c.wfByText s = true) (htie : c.laidByTextAt Lk p kinds tests)
   (hst : c.start = .entering) (hnb : c.noBlocks = false /\ c.again = false) (hm : p.checked.prog.mainIs = some (har.1, har.2.toList)) (hn : (!har.1 && har.2.isEmpty && !lk) = false)
   (hl : ∀ f fn, p.checked.prog.funcNamed c.func = some f -> p.checked.prog.funcs[f]? = some fn -> lk = p.checked.prog.looks [] /\ ∀ (j : Nat) t, fn.params[j]? = some t -> p.checked.prog.wantsStandIn t = false)
   (hg : true = c.goesBy p.checked.prog) :
   Claim7.holds p (.plain s) { stood := { row := c, standIns := [], harness := har, looks := lk }, kinds := [], alts := [], goes := true, laidByText := true, laidKinds := kinds, laidTests := tests, laidLooks := Lk } := by
 have h6 : ∀ r : OpenClaim, Claim7.isSixth { stood := { row := r, standIns := [], harness := har, looks := lk }, kinds := [] } = false := fun r => by simpa [Claim7.isSixth] using hn
 have ht := Claim7.tied_new_at Lk kinds tests (Claim7.new_of_sixth hc har lk hst hnb hm (h6 c) hl) hw
 refine ⟨ht, fun D hD => ?_, htie, (fun h => by cases h), hg⟩
 cases hD
end Go.Proofs.YtonmcakdofbjiaaDoor
