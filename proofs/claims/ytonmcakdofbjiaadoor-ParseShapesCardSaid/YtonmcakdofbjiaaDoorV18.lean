/-
  The parts: base Tok6 base Lai0 base Lai2 base Prs1 base Prs2
-/
import Derived.Test.YtonmcakdofbjiaaDoorV17
import Derived.Test.YtonmcakdofbjiaaDoorRows
import Derived.LaidLaws
import Derived.MakeChecks
import Derived.ProofKit
import Derived.OpenShut
import Derived.LaidMore
import Derived.Lay
import Derived.Deep.QuietTactic
import Derived.BigQuiet
import Derived.Deep.Draws
import Derived.Deep.LoopGhost
set_option linter.unusedVariables false
set_option linter.unusedSimpArgs false
set_option linter.unusedSectionVars false
set_option linter.unnecessarySimpa false
set_option maxRecDepth 100000
set_option maxHeartbeats 8000000
namespace Go.Proofs.YtonmcakdofbjiaaDoor
open Go.RowKit Go.Bsd Go.Conc
structure VarsOk (w : World) : Prop where
 plain : ∀ y, y = 3 \/ y = 4 \/ y = 5 -> ∃ cs T fz, w.heap[y]? = some (.cells cs T fz) /\ ∀ v ∈ cs, PlainV v
 far : ∀ y, y = 1 \/ y = 2 -> ∃ b o T fz, w.heap[y]? = some (.cells #[.iface 123 (.pointer (some ⟨b, o, none⟩))] T fz)
 size : Tryd.prog.globals.size <= w.heap.size
theorem VarsOk.kin {w w' : World} (h : VarsOk w) (k : Kin w w') : VarsOk w' := by
 obtain ⟨h1, h2, h5⟩ := h
 refine ⟨fun y hy => ?_, fun y hy => ?_, Nat.le_trans h5 k.size⟩
 · obtain ⟨cs, T, fz, q1, q2⟩ := h1 y hy
   exact ⟨cs, T, fz, (k.block y (lt_of_some q1)).trans q1, q2⟩
 · obtain ⟨b, o, T, fz, q1⟩ := h2 y hy
   exact ⟨b, o, T, fz, (k.block y (lt_of_some q1)).trans q1⟩
def farW (w : World) (o8 o9 : Obj) : World := { w with heap := (w.heap.setIfInBounds 1 o8).setIfInBounds 2 o9 }
theorem farW_size (w : World) (o8 o9 : Obj) : (farW w o8 o9).heap.size = w.heap.size := by simp [farW]
theorem farW_at (w : World) (o8 o9 : Obj) (hz : 2 < w.heap.size) (y : Nat) : (farW w o8 o9).heap[y]? = if y = 2 then some o9 else if y = 1 then some o8 else w.heap[y]? := by
 show ((w.heap.setIfInBounds 1 o8).setIfInBounds 2 o9)[y]? = _
 rw [Array.getElem?_setIfInBounds, Array.getElem?_setIfInBounds]
 by_cases h9 : y = 2
 · subst h9; simp [hz]
 · by_cases h8 : y = 1
   · subst h8; simp; omega
   · simp [h9, h8, Ne.symm h9, Ne.symm h8]
def farOb (t b o : Nat) (T : TypeId) (fz : Nat × Nat) : Obj := .cells #[.iface t (.tuple #[.complex .f64 b o])] T fz
theorem VarsOk.stands {w : World} (h : VarsOk w) : ∃ o8 o9 : Obj, (∃ te pe, (farW w o8 o9).cell? ⟨1, 0, none⟩ = some (.iface te pe)) /\ (∃ te pe, (farW w o8 o9).cell? ⟨2, 0, none⟩ = some (.iface te pe)) /\ 2 < w.heap.size /\
   (∀ y, (y = 3 \/ y = 4 \/ y = 5 \/ y = 1 \/ y = 2) -> StandsAt (farW w o8 o9) w y) := by
 obtain ⟨h1, h2, h5⟩ := h
 obtain ⟨b8, o8, T8, f8, q8⟩ := h2 1 (.inl rfl)
 obtain ⟨b9, o9, T9, f9, q9⟩ := h2 2 (.inr rfl)
 have hz : 2 < w.heap.size := lt_of_some q9
 have ha := farW_at w (farOb 123 b8 o8 T8 f8) (farOb 123 b9 o9 T9 f9) hz
 refine ⟨farOb 123 b8 o8 T8 f8, farOb 123 b9 o9 T9 f9, ⟨123, .tuple #[.complex .f64 b8 o8], ?_⟩, ⟨123, .tuple #[.complex .f64 b9 o9], ?_⟩, hz, fun y hy => ?_⟩
 · unfold World.cell?
   dsimp only
   rw [ha]
   simp [farOb]
 · unfold World.cell?
   dsimp only
   rw [ha]
   simp [farOb]
 · have one : ∀ (b o : Nat) (i : Nat) (x x' : Value), (#[Value.iface 123 (.tuple #[.complex .f64 b o])] : Array Value)[i]? = some x -> (#[Value.iface 123 (.pointer (some ⟨b, o, none⟩))] : Array Value)[i]? = some x' -> Stands x x' := by
     intro b o i x x' hx hx'
     cases i with
     | zero =>
       simp at hx hx'
       subst hx hx'
       exact Stands.far 123 b o rfl
     | succ i => simp at hx
   by_cases e9 : y = 2
   · subst e9
     exact ⟨#[.iface 123 (.tuple #[.complex .f64 b9 o9])], _, T9, f9, by rw [ha, if_pos rfl]; rfl, q9, rfl, one b9 o9⟩
   · by_cases e8 : y = 1
     · subst e8
       exact ⟨#[.iface 123 (.tuple #[.complex .f64 b8 o8])], _, T8, f8, by rw [ha, if_neg (by decide), if_pos rfl]; rfl, q8, rfl, one b8 o8⟩
     · obtain ⟨cs, T, fz, q1, q2⟩ := h1 y (by omega)
       refine ⟨cs, cs, T, fz, by rw [ha, if_neg e9, if_neg e8]; exact q1, q1, rfl, fun i x x' hx hx' => ?_⟩
       rw [hx] at hx'
       cases hx'
       exact Stands.plain (q2 x (Array.mem_of_getElem? hx))
def TokRes (s : ByteArray) (w : World) (v : Value) (w' : World) : Prop :=
 if 8192 < s.size then v = .tuple #[.slice none 0 0, .int .i64 21, .int .i64 8192]
 else if (badOf (pieces s)).1 ≠ 0 then v = .tuple #[.slice none 0 0, .int .i64 (badOf (pieces s)).1, .int .i64 (badOf (pieces s)).2]
 else ∃ sl, v = .tuple #[sl, .int .i64 0, .int .i64 0] /\ w'.ownsRow w.heap.size 74 4 sl (goodOf (pieces s)).length (flatToks (goodOf (pieces s)))
def TokPost (s : ByteArray) (w : World) : Ending -> World -> Prop
 | .returned v, w' => Kin w w' /\ TokRes s w v w'
 | _, _ => False
theorem cutF_length (s : ByteArray) : ∀ f i, (cutF s f i).length <= f := by
 intro f
 induction f with
 | zero => intro i; exact Nat.le_refl _
 | succ f ih =>
   intro i
   unfold cutF
   split
   · split
     · have := ih (skipTo s (i + (itemAt s i).text.size)); simp; omega
     · simp
   · simp
theorem pieces_length (s : ByteArray) : (pieces s).length <= s.size + 1 := cutF_length s _ _
theorem cut_okB : okCodeB Tryd.prog prodF prodG true cutRest = true := by kernel_rfl
theorem tk4_okB : okCodeB Tryd.prog [] [] false tk4 = true := by kernel_rfl
theorem nobody_sim : SimP Tryd.prog (inF []) (inG []) (fun b => b = false) := simP_of fun f hf => absurd hf (by simp)
theorem plainV_flat (l : List Item) : ∀ u ∈ flatToks l, PlainV u := by
 intro u hu
 simp only [flatToks, List.mem_flatMap] at hu
 obtain ⟨x, _, hx⟩ := hu
 simp only [tokCells, List.mem_cons, List.not_mem_nil, or_false] at hx
 rcases hx with rfl | rfl | rfl | rfl <;> exact plainV_of 0 rfl
theorem plainV_item (x : Item) : PlainV x.v := by
 refine plainV_of 1 ?_
 simp only [Item.v, itemV, grB]
 rfl
/-! ### the frames -/
theorem vsRel_self {F : FuncId -> Prop} {ρ : Rn} {cs : Array Value} (h : ∀ v ∈ cs, VRel F ρ v v) : VsRel F ρ cs cs := ⟨rfl, fun i v v' h1 h2 => by
 rw [h1] at h2; cases h2; exact h v (Array.mem_of_getElem? h1)⟩
theorem frel_cons (s : ByteArray) (c : Nat) : FRel Tryd.prog (inF []) (inG []) (fun b => b = false) [] [] (fun x y => x = y /\ x = c) (frc s c) (frc s c) := by
 refine ⟨rfl, ⟨_, Tryd.func18⟩, vsRel_self ?_, rfl, ?_, .nil, .run, rfl, rfl⟩
 · intro v hv
   have hu : ∀ v, v ∈ (goAct s c).tmps -> v = .chan (some c) \/ grB 2 v = true := by
     intro v hv
     simp only [goAct, List.mem_toArray, List.mem_cons, List.not_mem_nil, or_false] at hv
     rcases hv with rfl | rfl | rfl | rfl | rfl | rfl | rfl | rfl | rfl | rfl | rfl | rfl | rfl | rfl | rfl | rfl | rfl | rfl | rfl | rfl | rfl | rfl | rfl | rfl | rfl | rfl | rfl | rfl | rfl | rfl | rfl | rfl | rfl | rfl | rfl | rfl <;> first | exact .inl rfl | exact .inr rfl
   rcases hu v hv with rfl | h
   · exact .chan (.some ⟨rfl, rfl⟩)
   · exact (grB_ok 2 v h) _ _
 · intro x hx
   simp only [frc, Frame.at, List.mem_cons, List.not_mem_nil, or_false] at hx
   rcases hx with rfl | rfl
   · intro i hi; cases hi
   · exact okCodeB_ok tk4_okB
theorem frel_prod (s : ByteArray) (c : Nat) (Gb : Nat -> Prop) : FRel Tryd.prog (inF prodF) (inG prodG) (fun b => b = true) [] [closeD c] (fun x y => x = y /\ (x = c \/ Gb x)) (frp s c) (frp' s c) := by
 refine ⟨rfl, ⟨_, Tryd.func30⟩, vsRel_self ?_, rfl, ?_, .nil, .run, rfl, rfl⟩
 · intro v hv
   have hu : v = .chan (some c) \/ grB 2 v = true := by
     have hv : v ∈ (cutAct s c).tmps := hv
     simp only [cutAct, List.append_toArray, Array.mem_append, List.mem_toArray, List.mem_cons, List.not_mem_nil, or_false, Array.mem_replicate] at hv
     rcases hv with hv | hv
     · rcases hv with rfl | rfl | rfl | rfl | rfl | rfl | rfl | rfl | rfl | rfl | rfl <;> first | exact .inl rfl | exact .inr rfl
     · rw [hv.2]; exact .inr rfl
   rcases hu with rfl | h
   · exact .chan (.some ⟨rfl, .inl rfl⟩)
   · exact (grB_ok 2 v h) _ _
 · intro x hx
   simp only [frp, Frame.at, List.mem_cons, List.not_mem_nil, or_false] at hx
   subst hx
   exact okCodeB_ok cut_okB
theorem res40 (a : Array Value) (x y z : Value) (h2 : a.getD 2 undef = x) (h3 : a.getD 3 undef = y) (h4 : a.getD 4 undef = z) (w : World) : (results Tryd.f18 a).run Tryd.prog w = .ok (.tuple #[x, y, z]) w := by
 subst h2; subst h3; subst h4
 simp [results, Tryd.f18]
theorem tkEnd_wp (s : ByteArray) (w0 w1 : World) (b c : Nat) (sl u : Value) (hs : ¬ 8192 < s.size) (hk : Kin w0 w1) (hbad1 : w1.cell? ⟨b, 4, none⟩ = some (.int .i64 (badOf (pieces s)).1)) (hbad2 : w1.cell? ⟨b, 5, none⟩ = some (.int .i64 (badOf (pieces s)).2))
   (hown : w1.ownsRow w0.heap.size 74 4 sl (goodOf (pieces s)).length (flatToks (goodOf (pieces s)))) (T : Nat -> Question -> Nat) (d : Nat) (t0 t1 t2 t3 t4 t5 t8 t9 t10 t11 t12 t13 t14 t18 t19 t20 t21 t22 t23 t24 t25 t26 t27 t28 t29 t30 t31 t32 t33 t34 t35 : Value) :
   tkEnd.wp Tryd.prog (bodyPostD Tryd.prog Tryd.f18 (TokPost s w0)) { tmps := #[t0, t1, t2, t3, t4, t5, sl, .pointer (some ⟨b, 0, none⟩), t8, t9, t10, t11, t12, t13, t14, .chan (some c), u, .bool false, t18, t19, t20, t21, t22, t23, t24, t25, t26, t27, t28, t29, t30, t31, t32, t33, t34, t35], defers := [] } (re w1 T d) := by
 have q1 : (re w1 T d).cell? ⟨b, 4, none⟩ = some (.int .i64 (badOf (pieces s)).1) := hbad1
 have q2 : (re w1 T d).cell? ⟨b, 5, none⟩ = some (.int .i64 (badOf (pieces s)).2) := hbad2
 have HK : Hid (Kin w0 (re w1 T d)) := Lib.hid ⟨hk.os, hk.out, hk.size, hk.block⟩
 have HO : Hid ((re w1 T d).ownsRow w0.heap.size 74 4 sl (goodOf (pieces s)).length (flatToks (goodOf (pieces s)))) := Lib.hid hown
 have HS := Lib.hid hs
 clear hbad1 hbad2 hk hown hs
 generalize re w1 T d = w at q1 q2 HK HO ⊢
 generalize hpq : badOf (pieces s) = pq at q1 q2
 have HP := Lib.hid hpq
 clear hpq
 generalize hQ : bodyPostD Tryd.prog Tryd.f18 (TokPost s w0) = Q
 have HQ := Lib.hid hQ
 clear hQ
 simp only [tkEnd, tk4, tk2, tk0, seqR, seqL, Tryd.f18, Option.getD_some]
 by_cases hc : pq.1 = 0
 · have k1 : (pq.1 == 0) = true := by simp [hc]
   have k2 : (pq.1 != 0) = false := by simp [hc]
   have HC := Lib.hid hc
   clear hc
   go_wp2
   rw [<- HQ.out]
   refine ⟨_, res40 _ _ _ _ rfl rfl rfl _, HK.out, ?_⟩
   unfold TokRes
   rw [if_neg HS.out, HP.out, if_neg (by simpa using HC.out)]
   exact ⟨sl, rfl, HO.out⟩
 · have k1 : (pq.1 == 0) = false := by simp [hc]
   have k2 : (pq.1 != 0) = true := by simp [hc]
   have HC := Lib.hid hc
   clear hc
   go_wp2
   go_region
   go_wp2
   rw [<- HQ.out]
   refine ⟨_, res40 _ _ _ _ rfl rfl rfl _, ⟨HK.out.os, HK.out.out, HK.out.size, HK.out.block⟩, ?_⟩
   unfold TokRes
   rw [if_neg HS.out, HP.out, if_pos HC.out]
   rfl
theorem g_inj {fr fr' : Frame} {l l' : List Frame} (h : Go.Conc.G fr l = Go.Conc.G fr' l') : fr = fr' /\ l = l' := by
 simp only [Go.Conc.G, Goroutine.mk.injEq] at h
 exact ⟨h.1, h.2.1⟩
theorem tok_tail (hP : TameProg Tryd.prog) (s : ByteArray) (f c : Nat) (w0 W : World) (cs : List Frame) (hs : ¬ 8192 < s.size) (hc : c = w0.heap.size) (hW : ∃ o, W = w0.alloc o) {g : Goroutine} {w1 : World} {ρ : Rn} {fr fr' : Frame} {z z' : Value} {ok : Bool} {v : World}
   (h : PipeEnd Tryd.prog (inF []) (inG []) f c cs W (Xc s f c) g w1 ρ fr fr' z z' ok v) : Bes Tryd.prog (Leav Tryd.prog 18 (TokPost s w0) cs) g w1 := by
 obtain ⟨o, rfl⟩ := hW
 obtain ⟨a, b, sl, eG, ha, hw⟩ := h.end_
 obtain ⟨rfl, _⟩ := g_inj eG
 have hcomm := h.comm v.tape v.drawn
 rw [recv_comm s c b sl a _ ha] at hcomm
 simp only [GStep.comm.injEq, true_and, CommShape.recv.injEq] at hcomm
 obtain rfl : true = ok := by
   have := hcomm
   simp at this
   exact this.2.symm
 have hT := h.rel.tmps
 have hsize : fr'.tmps.size = 36 := by rw [<- hT.size]; exact ha.size
 have get : ∀ (i : Nat) (x : Value), a.tmps[i]? = some x -> ∃ y, fr'.tmps[i]? = some y /\ VRel (inF []) ρ x y := by
   intro i x hx
   have hi : i < a.tmps.size := (Array.getElem?_eq_some_iff.1 hx).1
   have hi' : i < fr'.tmps.size := by rw [hsize, <- ha.size]; exact hi
   exact ⟨fr'.tmps[i], Array.getElem?_eq_getElem hi', hT.all i _ _ hx (Array.getElem?_eq_getElem hi')⟩
 obtain ⟨sl', q6, v6⟩ := get 6 _ ha.s6
 obtain ⟨x7, q7, v7⟩ := get 7 _ ha.s7
 obtain ⟨x15, q15, v15⟩ := get 15 _ ha.s15
 obtain ⟨b', hbb, rfl⟩ : ∃ b', ρ b b' /\ x7 = .pointer (some ⟨b', 0, none⟩) := by
   cases v7 with
   | pointer hx =>
     cases hx with
     | @some p p' hp =>
       obtain ⟨k1, k2, k3⟩ := hp
       obtain ⟨p1, p2, p3⟩ := p'
       simp only at k1 k2 k3
       subst k2; subst k3
       exact ⟨p1, k1, rfl⟩
 obtain ⟨c', rfl⟩ : ∃ c', x15 = .chan (some c') := by
   cases v15 with
   | chan hx => cases hx with | @some p p' hp => exact ⟨p', rfl⟩
 have ha' : TokA s c' b' sl' { tmps := fr'.tmps, defers := [] } := ⟨hsize, q6, q7, q15, rfl⟩
 have hfr : fr' = (base0 18).at { tmps := fr'.tmps, defers := [] } recvK := by
   have h1 := h.rel.fn
   have h2 := h.rel.todo
   have h3 := h.rel.defers
   have h4 := h.rel.mode
   have h5 := h.rel.round'
   have h6 := h.kind
   have hd : ((base0 18).at a recvK).defers = [] := ha.defers
   rw [hd] at h3
   obtain ⟨f1, f2, f3, f4, f5, f6, f7⟩ := fr'
   simp only at h1 h2 h3 h4 h5 h6
   cases h3
   have hm : MRel (inF []) ρ .run f5 := h4
   cases hm
   subst h1; subst h2; subst h5; subst h6
   rfl
 -- what the memory holds
 obtain ⟨y0, y1, y2, y3, hbad⟩ := hw.bad
 have hk1 := cell_int h.wrel hbb hbad.c4
 have hk2 := cell_int h.wrel hbb hbad.c5
 have hlen : (pieces s).take (pieces s).length = pieces s := List.take_length
 rw [hlen] at hk1 hk2
 have hcb : ∀ x y, ρ x y -> w0.heap.size <= y := by
   intro x y hxy
   by_cases hy : y < (w0.alloc o).heap.size
   · have := h.old x y hxy hy; omega
   · simp at hy; omega
 have hown := owns_rel h.wrel (base' := w0.heap.size) hw.own v6 (plainV_flat _) hcb
 rw [hlen] at hown
 have hkin : Kin w0 w1 := by
   have hsz := h.grow
   simp at hsz
   refine ⟨h.os, h.out, by omega, fun k hk => ?_⟩
   rw [h.keep k (by simp; omega) (by omega)]
   exact (World.grownBy_alloc w0 o none).block k hk (by simp)
 -- the steps
 have hhere := h.here
 rw [hfr] at hhere
 have hfin : ((base0 18).at { tmps := fr'.tmps, defers := [] } recvK).finish (recvd true z' false) = (base0 18).at (Act.put { tmps := fr'.tmps, defers := [] } (some 16) (.tuple #[z', .bool false])) (.inRegion ops8 [1] :: .code tkItem :: loopK) := by
   unfold recvK
   rw [Frame.finish_at]
   rfl
 rw [hfin] at hhere
 subst hhere
 have s2 : ∀ w2, step Tryd.prog (lone ((base0 18).at (Act.put { tmps := fr'.tmps, defers := [] } (some 16) (.tuple #[z', .bool false])) (.inRegion ops8 [1] :: .code tkItem :: loopK)) cs w2) = _ := fun w2 =>
   lone_value (P := Tryd.prog) (b := base0 18) (a := Act.put { tmps := fr'.tmps, defers := [] } (some 16) (.tuple #[z', .bool false])) (k := .code tkItem :: loopK) (cs := cs) (ops := ops8) (i := 1) (rest := []) (w := w2) (w' := w2) (v := .bool false)
     (o := { dst := some 17, op := Op.extract (Operand.tmp 16) 1, type := 4, pos := "lex.go:119", after := #[{ on := 0, ground := Ground.data }], guard := none }) rfl rfl (extract_pair _ z' (.bool false) 16 _ _ rfl (by simp [Act.put, hsize]))
 refine head1 hP s2 ?_
 refine head1 hP (fun w => step_region_end) ?_
 obtain ⟨t0, t1, t2, t3, t4, t5, t8, t9, t10, t11, t12, t13, t14, t18, t19, t20, t21, t22, t23, t24, t25, t26, t27, t28, t29, t30, t31, t32, t33, t34, t35, he⟩ := tokA_open ha' (.tuple #[z', .bool false]) (.bool false)
 rw [he]
 obtain ⟨cnd, x1, y1, hitem⟩ : ∃ x1 y1 z1, tkItem = .seq (.cond (.tmp 17) x1 (.exit 0)) y1 /\ z1 = 0 := ⟨_, _, _, rfl, rfl⟩
 obtain ⟨hitem, _⟩ := hitem
 rw [hitem]
 refine head1 hP (fun w => step_seq) ?_
 refine head1 hP (fun w => step_cond (t := false) rfl) ?_
 refine head1 hP (fun w => step_exit (k' := [.code tkEnd]) rfl) ?_
 exact tailB_lone hP Tryd.func18 (fun _ h => h) (fun T d => tkEnd_wp s w0 w1 b' c' sl' _ hs hkin hk1 hk2 hown T d t0 t1 t2 t3 t4 t5 t8 t9 t10 t11 t12 t13 t14 t18 t19 t20 t21 t22 t23 t24 t25 t26 t27 t28 t29 t30 t31 t32 t33 t34 t35) cs
end Go.Proofs.YtonmcakdofbjiaaDoor
namespace Go.Proofs.YtonmcakdofbjiaaDoor
open Go.ChangeShapes Go.WideShapes Go.ChangeAt Go.RowKit Go.Bsd
theorem star253 : "*" ++ "errors.errorString" = "*errors.errorString" := by decide
theorem row253 (u : TypeId) (h : Tryd.prog.typeName? 3 u = some "*errors.errorString") : u = 123 :=
 typeName_ptr_named (nm := "errors.errorString") (by rw [star253]; kernel_rfl) (by kernel_rfl) (by decide) u (by rw [star253]; exact h)
theorem cell_plain {w : World} {a : Addr} {v : Value} (h : w.cell? a = some v) : a = ⟨a.block, a.off, none⟩ := by
 obtain ⟨b, o, s⟩ := a
 cases s with
 | none => rfl
 | some x =>
   exfalso
   unfold World.cell? at h
   split at h <;> simp_all
theorem err_laid {W : World} {n : String} {g : Nat} {cs : Array Value} {fuel : Nat} {text : List UInt8} {p : List MemPlace} (hg : Tryd.prog.globalNamed n = some g)
   (hv : W.var? Tryd.prog n = some cs) (hd : DataW.trod (fun _ => ()) Tryd.prog W 0 (fun _ => true) false fuel 36 cs.toList = some (.iface "*errors.errorString" (.ptr (.agg [.lit (.string text)])), p))
   (hok : ∀ u v, W.cell? ⟨g, 0, none⟩ = some (.iface u v) -> Value.okWide Tryd.prog W .any 0 u v) :
   ∃ (a : Addr) (s : ByteArray), W.cell? ⟨g, 0, none⟩ = some (.iface 123 (.pointer (some a))) /\ cs = #[.iface 123 (.pointer (some a))] /\ W.cell? a = some (.string s) /\ s.data.toList = text /\ p = MemPlace.row a 1 := by
 obtain ⟨l⟩ := cs
 have ok0 : ∀ u v, l = [.iface u v] -> Value.okWide Tryd.prog W .any 0 u v := fun u v e => by
   subst e
   exact hok u v (by simpa using World.var?_cell hg hv 0)
 obtain ⟨a, s, rfl, hc, hs, hz, rfl⟩ := errorString_of_trod Tryd.underlying36 row253 Tryd.underlying123 Tryd.underlying125 rfl rfl Tryd.underlying9 (by kernel_rfl) (by kernel_rfl) hd ok0
 exact ⟨a, s, by simpa using World.var?_cell hg hv 0, rfl, hc, hs, rfl⟩
theorem var_heap {W : World} {n : String} {g : Nat} {cs : Array Value} (hg : Tryd.prog.globalNamed n = some g) (hv : W.var? Tryd.prog n = some cs) : ∃ T fz, W.heap[g]? = some (.cells cs T fz) := by
 unfold World.var? at hv
 rw [hg] at hv
 simp only [Option.bind_some] at hv
 split at hv
 · rename_i c T fz h
   cases hv
   exact ⟨T, fz, h⟩
 · cases hv
theorem arr_laid {W : World} {n : String} {g : Nat} {cs : Array Value} {fuel m : Nat} {t e : TypeId} {k : IntKind} {x : DataW Unit × List MemPlace} (hg : Tryd.prog.globalNamed n = some g) (hv : W.var? Tryd.prog n = some cs)
   (ht : Tryd.prog.underlying t = some (.array m e)) (he : Tryd.prog.underlying e = some (.int k)) (hce : Tryd.prog.cellsOf e = 1) (hct : Tryd.prog.cellsOf t = m)
   (hd : DataW.trod (fun _ => ()) Tryd.prog W 0 (fun _ => true) false fuel t cs.toList = some x) : ∃ cs T fz, W.heap[g]? = some (.cells cs T fz) /\ ∀ v ∈ cs, PlainV v := by
 obtain ⟨T, fz, hh⟩ := var_heap hg hv
 refine ⟨cs, T, fz, hh, fun v hvm => ?_⟩
 obtain ⟨xs, q, _, _, hlen, hxl, hel⟩ := DataW.trod_array ht hd
 obtain ⟨i, hi, rfl⟩ := Array.mem_iff_getElem.1 hvm
 have hlen' : cs.size = m := by have : cs.toList.length = m := hlen.trans hct; simpa using this
 have hE := hel i (by omega)
 rw [hce, Nat.mul_one, List.getElem?_eq_getElem (by omega)] at hE
 obtain ⟨z, e1, _, _⟩ := DataW.trod_int he hE
 have h0 : ((cs.toList.drop i).take 1)[0]? = some (.int k z) := by rw [e1]; rfl
 have h1 : cs[i]? = some (.int k z) := by simpa using h0
 rw [Array.getElem?_eq_getElem hi] at h1
 rw [Option.some.inj h1]
 exact plainV_of 1 rfl
end Go.Proofs.YtonmcakdofbjiaaDoor
namespace Go.Proofs.YtonmcakdofbjiaaDoor
open Go.ChangeShapes Go.WideShapes Go.ChangeAt Go.RowKit Go.Bsd
theorem laid_vars {W : World} (h : laidMetH Tryd.prog Rows.parseShapesRow.laid W) : (∀ y, y = 3 \/ y = 4 \/ y = 5 -> ∃ cs T fz, W.heap[y]? = some (.cells cs T fz) /\ ∀ v ∈ cs, PlainV v) /\
   (∀ y, y = 1 \/ y = 2 -> ∃ b o T fz, W.heap[y]? = some (.cells #[.iface 123 (.pointer (some ⟨b, o, none⟩))] T fz)) /\ ∃ b, W.cell? ⟨0, 0, none⟩ = some (.iface 123 (.pointer (some b))) := by
 rw [MakeChecks.laidMetH_plain _ _ _ (by kernel_rfl)] at h
 obtain ⟨ps, ⟨g1, t1, c1, f1, p1, q1, hg1, ht1, hv1, hd1, ⟨g2, t2, c2, f2, p2, q2, hg2, ht2, hv2, hd2, ⟨g3, t3, c3, f3, p3, q3, hg3, ht3, hv3, hd3, ⟨g4, t4, c4, f4, p4, q4, hg4, ht4, hv4, hd4, ⟨g5, t5, c5, f5, p5, q5, hg5, ht5, hv5, hd5, ⟨g6, t6, c6, f6, p6, q6, hg6, ht6, hv6, hd6, hq6, e6⟩, e5⟩, e4⟩, e3⟩, e2⟩, e1⟩, hnd, hrows⟩ := h
 obtain rfl := Option.some.inj ((show Tryd.prog.globalNamed "math/bits.deBruijn32tab" = some 4 by kernel_rfl).symm.trans hg1)
 obtain rfl := Option.some.inj ((show Tryd.prog.globalNamed "math/bits.deBruijn64tab" = some 5 by kernel_rfl).symm.trans hg2)
 obtain rfl := Option.some.inj ((show Tryd.prog.globalNamed "internal/strconv.uint64pow10" = some 3 by kernel_rfl).symm.trans hg3)
 obtain rfl := Option.some.inj ((show Tryd.prog.globalNamed "strconv.ErrRange" = some 2 by kernel_rfl).symm.trans hg4)
 obtain rfl := Option.some.inj ((show Tryd.prog.globalNamed "strconv.ErrSyntax" = some 1 by kernel_rfl).symm.trans hg5)
 obtain rfl := Option.some.inj ((show Tryd.prog.globalNamed "winnow/api.ErrReject" = some 0 by kernel_rfl).symm.trans hg6)
 obtain rfl := Option.some.inj ((show (Tryd.prog.globals[2]?).map (·.type) = some 36 by kernel_rfl).symm.trans ht4)
 obtain rfl := Option.some.inj ((show (Tryd.prog.globals[1]?).map (·.type) = some 36 by kernel_rfl).symm.trans ht5)
 obtain rfl := Option.some.inj ((show (Tryd.prog.globals[0]?).map (·.type) = some 36 by kernel_rfl).symm.trans ht6)
 have hq6' : q6 = [] := hq6
 subst hq6'
 have ok : ∀ g, MemPlace.cell g 0 ∈ ps -> ∀ u v, W.cell? ⟨g, 0, none⟩ = some (.iface u v) -> Value.okWide Tryd.prog W .any 0 u v := fun g hm u v hc => (hrows g 0 hm).2 u v hc
 obtain rfl := Option.some.inj ((show (Tryd.prog.globals[4]?).map (·.type) = some 138 by kernel_rfl).symm.trans ht1)
 obtain rfl := Option.some.inj ((show (Tryd.prog.globals[5]?).map (·.type) = some 139 by kernel_rfl).symm.trans ht2)
 obtain rfl := Option.some.inj ((show (Tryd.prog.globals[3]?).map (·.type) = some 133 by kernel_rfl).symm.trans ht3)
 have size1 : ∀ {n : String} {g : Nat} {cs : Array Value} {fuel : Nat} {d : DataW Unit} {p : List MemPlace}, DataW.trod (fun _ => ()) Tryd.prog W 0 (fun _ => true) false fuel 36 cs.toList = some (.iface "*errors.errorString" d, p) -> cs.size = 1 := by
   intro n g cs fuel d p hd
   obtain ⟨_, u, v, e, _, _⟩ := iface_of_trod Tryd.underlying36 hd
   have : cs.toList.length = 1 := by rw [e]; rfl
   simpa using this
 have s4 := size1 (n := "") (g := 0) hd4
 have s5 := size1 (n := "") (g := 0) hd5
 have s6 := size1 (n := "") (g := 0) hd6
 have m9 : MemPlace.cell 2 0 ∈ ps := by subst e1 e2 e3 e4; simp [MemPlace.row, s4]
 have m8 : MemPlace.cell 1 0 ∈ ps := by subst e1 e2 e3 e4 e5; simp [MemPlace.row, s5]
 have m0 : MemPlace.cell 0 0 ∈ ps := by subst e1 e2 e3 e4 e5 e6; simp [MemPlace.row, s6]
 obtain ⟨a9, x9, k9, cs9, n9, _, r9⟩ := err_laid hg4 hv4 hd4 (ok 2 m9)
 obtain ⟨a8, x8, k8, cs8, n8, _, r8⟩ := err_laid hg5 hv5 hd5 (ok 1 m8)
 obtain ⟨a0, x0, k0, cs0, n0, w0, r0⟩ := err_laid hg6 hv6 hd6 (ok 0 m0)
 refine ⟨fun y hy => ?_, fun y hy => ?_, a0, k0⟩
 · rcases hy with rfl | rfl | rfl
   · exact arr_laid hg3 hv3 Tryd.underlying133 Tryd.underlying108 (by kernel_rfl) (by kernel_rfl) hd3
   · exact arr_laid hg1 hv1 Tryd.underlying138 Tryd.underlying5 (by kernel_rfl) (by kernel_rfl) hd1
   · exact arr_laid hg2 hv2 Tryd.underlying139 Tryd.underlying5 (by kernel_rfl) (by kernel_rfl) hd2
 · rcases hy with rfl | rfl
   · obtain ⟨T, fz, hh⟩ := var_heap hg5 hv5
     rw [cs8, cell_plain n8] at hh
     exact ⟨_, _, T, fz, hh⟩
   · obtain ⟨T, fz, hh⟩ := var_heap hg4 hv4
     rw [cs9, cell_plain n9] at hh
     exact ⟨_, _, T, fz, hh⟩
end Go.Proofs.YtonmcakdofbjiaaDoor
namespace Go.Proofs.YtonmcakdofbjiaaDoor
open Go.RowKit
structure ToksAt (l : List Item) (g : Nat) (w : World) : Prop where
 kind : ∀ j t, l[j]? = some t -> w.cell? ⟨g, j * 4, none⟩ = some (.int .i64 t.kind)
 text : ∀ j t, l[j]? = some t -> w.cell? ⟨g, j * 4 + 1, none⟩ = some (.string t.text)
 num : ∀ j t, l[j]? = some t -> w.cell? ⟨g, j * 4 + 2, none⟩ = some (.int .i64 t.num)
 pos : ∀ j t, l[j]? = some t -> w.cell? ⟨g, j * 4 + 3, none⟩ = some (.int .i64 t.pos)
structure Ctx where
 l : List Item
 e : Int
 te : TypeId
 pe : Value
 r : Nat
 g : Nat
structure Rd (C : Ctx) (i : Nat) (w : World) : Prop where
 list : ∃ b cap g, w.cell? ⟨C.r, 0, none⟩ = some (.slice b C.l.length cap) /\ (C.l ≠ [] -> b = some ⟨g, 0, none⟩) /\ C.l.length <= cap /\ ToksAt C.l g w /\ (C.l ≠ [] -> g ≠ C.r)
 ci : w.cell? ⟨C.r, 1, none⟩ = some (.int .i64 i)
 end_ : w.cell? ⟨C.r, 2, none⟩ = some (.int .i64 C.e)
 froz : w.frozen? ⟨C.r, 1, none⟩ = false
 le : i <= C.l.length
 len : C.l.length <= 8193
 err : w.cell? ⟨0, 0, none⟩ = some (.iface C.te C.pe)
 pos : 0 < C.r
 tok : ∀ b n cap, w.cell? ⟨C.r, 0, none⟩ = some (.slice b n cap) -> C.l ≠ [] -> b = some ⟨C.g, 0, none⟩
def placeOf (l : List Item) (e : Int) (i : Nat) : Int := match l[i]? with
 | some t => t.pos
 | none => e
theorem Rd.drewN {C : Ctx} {i : Nat} {w : World} (h : Rd C i w) (n : Nat) : Rd C i (w.drewN n) := by
 obtain ⟨⟨b, cap, g, h0, hb, hcap, ht, hg⟩, h1, h2, hf, hle, hlen, he, hp, hk⟩ := h
 exact ⟨⟨b, cap, g, h0, hb, hcap, ⟨ht.kind, ht.text, ht.num, ht.pos⟩, hg⟩, h1, h2, hf, hle, hlen, he, hp, hk⟩
theorem at_any (C : Ctx) (i : Nat) (w : World) (h : Rd C i w) : Calls Tryd.prog 31 #[.pointer (some ⟨C.r, 0, none⟩)] w fun x w' => x = .returned (.int .i64 (placeOf C.l C.e i)) /\ ∃ n, w' = w.drewN n := by
 obtain ⟨l, e, te, pe, r, gk⟩ := C
 obtain ⟨⟨b, cap, g, h0, hb, hcap, ht, hg⟩, h1, h2, hf, hle, hlen, herr, hpos, htok⟩ := h
 clear htok
 simp only at h0 hb hcap ht hg h1 h2 hf hle hlen herr hpos ⊢
 by_cases hi : i < l.length
 · obtain ⟨t, hx⟩ : ∃ t, l[i]? = some t := ⟨_, List.getElem?_eq_getElem hi⟩
   obtain rfl := hb (by rintro rfl; simp at hi)
   have hp := ht.pos i t hx
   have hpl : placeOf l e i = t.pos := by unfold placeOf; rw [hx]
   rw [hpl]
   clear hpl ht hb hg hx
   go_enter Tryd.func31, Tryd.ntmps31
   go_wp2_with fail
   go_quiet (fail)
   go_wp2_with fail
   go_quiet (fail)
   go_wp2
   go_ret
   exact ⟨rfl, _, World.drewN_drewN _ _ _⟩
 · have hpl : placeOf l e i = e := by unfold placeOf; rw [List.getElem?_eq_none (by omega)]
   rw [hpl]
   clear hpl ht hb hg
   go_enter Tryd.func31, Tryd.ntmps31
   go_wp2_with fail
   go_quiet (fail)
   go_wp2
   go_ret
   exact ⟨rfl, _, rfl⟩
def comesB (l : List Item) (i : Nat) (s : ByteArray) : Bool := match l[i]? with
 | some t => decide (t.kind ≠ 1) && (t.text.toList == s.toList)
 | none => false
theorem comes_any (C : Ctx) (i : Nat) (s : ByteArray) (w : World) (h : Rd C i w) : Calls Tryd.prog 45 #[.pointer (some ⟨C.r, 0, none⟩), .string s] w fun x w' => x = .returned (.bool (comesB C.l i s)) /\ ∃ n, w' = w.drewN n := by
 obtain ⟨l, e, te, pe, r, gk⟩ := C
 obtain ⟨⟨b, cap, g, h0, hb, hcap, ht, hg⟩, h1, h2, hf, hle, hlen, herr, hpos, htok⟩ := h
 clear htok
 simp only at h0 hb hcap ht hg h1 h2 hf hle hlen herr hpos ⊢
 by_cases hi : i < l.length
 · obtain ⟨t, hx⟩ : ∃ t, l[i]? = some t := ⟨_, List.getElem?_eq_getElem hi⟩
   obtain rfl := hb (by rintro rfl; simp at hi)
   have hp := ht.kind i t hx
   have hq := ht.text i t hx
   have hpl : comesB l i s = (decide (t.kind ≠ 1) && (t.text.toList == s.toList)) := by unfold comesB; rw [hx]
   rw [hpl]
   clear hpl ht hb hg hx
   by_cases hk : t.kind = 1
   · rw [hk] at hp ⊢
     clear hk
     go_enter Tryd.func45, Tryd.ntmps45
     go_wp2_with fail
     go_quiet (fail)
     go_wp2
     go_ret
     exact ⟨rfl, _, rfl⟩
   · have hk1 : (t.kind == 1) = false := by simp [hk]
     have hk2 : (t.kind != 1) = true := by simp [hk]
     have hk3 : (decide (t.kind ≠ 1) && (t.text.toList == s.toList)) = (t.text.toList == s.toList) := by simp [hk]
     rw [hk3]
     clear hk hk3
     go_enter Tryd.func45, Tryd.ntmps45
     go_wp2_with fail
     go_quiet (fail)
     go_wp2
     go_ret
     exact ⟨rfl, _, rfl⟩
 · have hpl : comesB l i s = false := by unfold comesB; rw [List.getElem?_eq_none (by omega)]
   have hdd : decide ((i : Int) < (l.length : Int)) = false := by simp; omega
   rw [hpl]
   clear hpl ht hb hg
   go_enter Tryd.func45, Tryd.ntmps45
   go_wp2_with fail
   go_quiet (fail)
   go_wp2
   go_ret
   exact ⟨rfl, _, rfl⟩
def reservedB (s : ByteArray) : Bool := [[118, 97, 114], [97, 114, 114, 97, 121], [105, 110, 112, 117, 116], [97, 115, 115, 101, 114, 116], [115, 107, 105, 112], [105, 102], [101, 108, 115, 101], [119, 104, 105, 108, 101], [116, 114, 117, 101], [102, 97, 108, 115, 101]].any fun (x : List UInt8) => s.toList == x
theorem reserved_any (s : ByteArray) (w : World) : Calls Tryd.prog 48 #[.string s] w fun x w' => x = .returned (.bool (reservedB s)) /\ w' = w := by
 by_cases h0 : (s.toList == [118, 97, 114]) = true
 · have hr : reservedB s = true := by simp [reservedB, h0]
   rw [hr]
   clear hr
   go_enter Tryd.func48, Tryd.ntmps48
   go_wp2
   go_ret
   exact ⟨rfl, rfl⟩
 · have g0 : (s.toList == [118, 97, 114]) = false := by simpa using h0
   clear h0
   by_cases h1 : (s.toList == [97, 114, 114, 97, 121]) = true
   · have hr : reservedB s = true := by simp [reservedB, g0, h1]
     rw [hr]
     clear hr
     go_enter Tryd.func48, Tryd.ntmps48
     go_wp2
     go_ret
     exact ⟨rfl, rfl⟩
   · have g1 : (s.toList == [97, 114, 114, 97, 121]) = false := by simpa using h1
     clear h1
     by_cases h2 : (s.toList == [105, 110, 112, 117, 116]) = true
     · have hr : reservedB s = true := by simp [reservedB, g0, g1, h2]
       rw [hr]
       clear hr
       go_enter Tryd.func48, Tryd.ntmps48
       go_wp2
       go_ret
       exact ⟨rfl, rfl⟩
     · have g2 : (s.toList == [105, 110, 112, 117, 116]) = false := by simpa using h2
       clear h2
       by_cases h3 : (s.toList == [97, 115, 115, 101, 114, 116]) = true
       · have hr : reservedB s = true := by simp [reservedB, g0, g1, g2, h3]
         rw [hr]
         clear hr
         go_enter Tryd.func48, Tryd.ntmps48
         go_wp2
         go_ret
         exact ⟨rfl, rfl⟩
       · have g3 : (s.toList == [97, 115, 115, 101, 114, 116]) = false := by simpa using h3
         clear h3
         by_cases h4 : (s.toList == [115, 107, 105, 112]) = true
         · have hr : reservedB s = true := by simp [reservedB, g0, g1, g2, g3, h4]
           rw [hr]
           clear hr
           go_enter Tryd.func48, Tryd.ntmps48
           go_wp2
           go_ret
           exact ⟨rfl, rfl⟩
         · have g4 : (s.toList == [115, 107, 105, 112]) = false := by simpa using h4
           clear h4
           by_cases h5 : (s.toList == [105, 102]) = true
           · have hr : reservedB s = true := by simp [reservedB, g0, g1, g2, g3, g4, h5]
             rw [hr]
             clear hr
             go_enter Tryd.func48, Tryd.ntmps48
             go_wp2
             go_ret
             exact ⟨rfl, rfl⟩
           · have g5 : (s.toList == [105, 102]) = false := by simpa using h5
             clear h5
             by_cases h6 : (s.toList == [101, 108, 115, 101]) = true
             · have hr : reservedB s = true := by simp [reservedB, g0, g1, g2, g3, g4, g5, h6]
               rw [hr]
               clear hr
               go_enter Tryd.func48, Tryd.ntmps48
               go_wp2
               go_ret
               exact ⟨rfl, rfl⟩
             · have g6 : (s.toList == [101, 108, 115, 101]) = false := by simpa using h6
               clear h6
               by_cases h7 : (s.toList == [119, 104, 105, 108, 101]) = true
               · have hr : reservedB s = true := by simp [reservedB, g0, g1, g2, g3, g4, g5, g6, h7]
                 rw [hr]
                 clear hr
                 go_enter Tryd.func48, Tryd.ntmps48
                 go_wp2
                 go_ret
                 exact ⟨rfl, rfl⟩
               · have g7 : (s.toList == [119, 104, 105, 108, 101]) = false := by simpa using h7
                 clear h7
                 by_cases h8 : (s.toList == [116, 114, 117, 101]) = true
                 · have hr : reservedB s = true := by simp [reservedB, g0, g1, g2, g3, g4, g5, g6, g7, h8]
                   rw [hr]
                   clear hr
                   go_enter Tryd.func48, Tryd.ntmps48
                   go_wp2
                   go_ret
                   exact ⟨rfl, rfl⟩
                 · have g8 : (s.toList == [116, 114, 117, 101]) = false := by simpa using h8
                   clear h8
                   by_cases h9 : (s.toList == [102, 97, 108, 115, 101]) = true
                   · have hr : reservedB s = true := by simp [reservedB, g0, g1, g2, g3, g4, g5, g6, g7, g8, h9]
                     rw [hr]
                     clear hr
                     go_enter Tryd.func48, Tryd.ntmps48
                     go_wp2
                     go_ret
                     exact ⟨rfl, rfl⟩
                   · have g9 : (s.toList == [102, 97, 108, 115, 101]) = false := by simpa using h9
                     clear h9
                     have hr : reservedB s = false := by simp [reservedB, g0, g1, g2, g3, g4, g5, g6, g7, g8, g9]
                     rw [hr]
                     clear hr
                     go_enter Tryd.func48, Tryd.ntmps48
                     go_wp2
                     go_ret
                     exact ⟨rfl, rfl⟩
def namedB (l : List Item) (i : Nat) : Bool := match l[i]? with
 | some t => decide (t.kind = 0) && !reservedB t.text
 | none => false
theorem named_any (C : Ctx) (i : Nat) (w : World) (h : Rd C i w) : Calls Tryd.prog 46 #[.pointer (some ⟨C.r, 0, none⟩)] w fun x w' => x = .returned (.bool (namedB C.l i)) /\ ∃ n, w' = w.drewN n := by
 obtain ⟨l, e, te, pe, r, gk⟩ := C
 obtain ⟨⟨b, cap, g, h0, hb, hcap, ht, hg⟩, h1, h2, hf, hle, hlen, herr, hpos, htok⟩ := h
 clear htok
 simp only at h0 hb hcap ht hg h1 h2 hf hle hlen herr hpos ⊢
 by_cases hi : i < l.length
 · obtain ⟨t, hx⟩ : ∃ t, l[i]? = some t := ⟨_, List.getElem?_eq_getElem hi⟩
   obtain rfl := hb (by rintro rfl; simp at hi)
   have hp := ht.kind i t hx
   have hq := ht.text i t hx
   have hpl : namedB l i = (decide (t.kind = 0) && !reservedB t.text) := by unfold namedB; rw [hx]
   rw [hpl]
   clear hpl ht hb hg hx
   by_cases hk : t.kind = 0
   · rw [hk] at hp ⊢
     clear hk
     go_enter Tryd.func46, Tryd.ntmps46
     go_wp2_with fail
     go_quiet ((go_at_call 48; exact Calls.quiet_of_same (reserved_any _ _)))
     go_wp2
     go_ret
     exact ⟨rfl, _, rfl⟩
   · have hk1 : (t.kind == 0) = false := by simp [hk]
     have hk2 : (t.kind != 0) = true := by simp [hk]
     have hk3 : (decide (t.kind = 0) && !reservedB t.text) = false := by simp [hk]
     rw [hk3]
     clear hk hk3
     go_enter Tryd.func46, Tryd.ntmps46
     go_wp2_with fail
     go_quiet (fail)
     go_wp2
     go_ret
     exact ⟨rfl, _, rfl⟩
 · have hpl : namedB l i = false := by unfold namedB; rw [List.getElem?_eq_none (by omega)]
   have hdd : decide ((i : Int) < (l.length : Int)) = false := by simp; omega
   rw [hpl]
   clear hpl ht hb hg
   go_enter Tryd.func46, Tryd.ntmps46
   go_wp2_with fail
   go_quiet (fail)
   go_wp2
   go_ret
   exact ⟨rfl, _, rfl⟩
end Go.Proofs.YtonmcakdofbjiaaDoor
namespace Go.Proofs.YtonmcakdofbjiaaDoor
open Go.RowKit
abbrev Grew (C : Ctx) (w w' : World) : Prop := w.grownBy w' (some C.r)
def Fails (C : Ctx) (w : World) (p : Int) (ch : List PanicEntry) (w' : World) : Prop :=
 ∃ q, ch = [{ v := .iface 54 (.pointer (some ⟨q, 0, none⟩)), recovered := false }] /\ w.heap.size <= q /\ w'.heap[q]? = some (.cells #[.int .i64 30, .int .i64 p, .iface C.te C.pe] 78 (0, 0)) /\ Grew C w w'
inductive Res (α : Type) where
 | ok (a : α) (j : Nat)
 | no (p : Int)
def PPost {α : Type} (C : Ctx) (w : World) (r : Res α) (val : α -> Value -> World -> Prop) : Ending -> World -> Prop
 | .returned v, w' => ∃ a j, r = .ok a j /\ val a v w' /\ Rd C j w' /\ Grew C w w'
 | .panicked ch, w' => ∃ p, r = .no p /\ Fails C w p ch w'
 | .outgrown, _ => False
theorem Rd.lt {C : Ctx} {i : Nat} {w : World} (h : Rd C i w) : C.r < w.heap.size := World.block_lt_of_cell? w ⟨C.r, 1, none⟩ h.ci
theorem Rd.lt0 {C : Ctx} {i : Nat} {w : World} (h : Rd C i w) : 0 < w.heap.size := World.block_lt_of_cell? w ⟨0, 0, none⟩ h.err
theorem ToksAt.of {l : List Item} {g : Nat} {w w' : World} (h : ToksAt l g w) (hk : l ≠ [] -> ∀ o, w'.cell? ⟨g, o, none⟩ = w.cell? ⟨g, o, none⟩) : ToksAt l g w' := by
 have ne : ∀ {j : Nat} {t : Item}, l[j]? = some t -> l ≠ [] := by rintro j t hj rfl; simp at hj
 exact ⟨fun j t hj => (hk (ne hj) _).trans (h.kind j t hj), fun j t hj => (hk (ne hj) _).trans (h.text j t hj), fun j t hj => (hk (ne hj) _).trans (h.num j t hj), fun j t hj => (hk (ne hj) _).trans (h.pos j t hj)⟩
theorem Rd.glt {C : Ctx} {i : Nat} {w : World} {g : Nat} (h : ToksAt C.l g w) (hne : C.l ≠ []) : g < w.heap.size := by
 cases hl : C.l with
 | nil => exact absurd hl hne
 | cons t l => exact World.block_lt_of_cell? w ⟨g, 0 * 4, none⟩ (h.kind 0 t (by rw [hl]; rfl))
theorem Rd.kept {C : Ctx} {i : Nat} {w w' : World} (h : Rd C i w) (hk : ∀ k, k < w.heap.size -> w'.heap[k]? = w.heap[k]?) : Rd C i w' := by
 have hr := h.lt
 have h0 := h.lt0
 obtain ⟨⟨b, cap, g, a0, hb, hcap, ht, hg⟩, a1, a2, af, hle, hlen, he, hp, hk0⟩ := h
 have c : ∀ n o, n < w.heap.size -> w'.cell? ⟨n, o, none⟩ = w.cell? ⟨n, o, none⟩ := fun n o hn => World.cell?_of_block (a := ⟨n, o, none⟩) (hk n hn)
 have f : ∀ n o, n < w.heap.size -> w'.frozen? ⟨n, o, none⟩ = w.frozen? ⟨n, o, none⟩ := fun n o hn => World.frozen?_of_block (a := ⟨n, o, none⟩) (hk n hn)
 exact ⟨⟨b, cap, g, (c _ _ hr).trans a0, hb, hcap, ht.of fun hne o => c _ _ (Rd.glt (i := i) ht hne), hg⟩, (c _ _ hr).trans a1, (c _ _ hr).trans a2, (f _ _ hr).trans af, hle, hlen, (c _ _ h0).trans he, hp, fun b n cap hb => hk0 b n cap ((c _ _ hr).symm.trans hb)⟩
theorem Rd.below {C : Ctx} {i : Nat} {w w' : World} (h : Rd C i w) (hb : Below w.heap.size w w') : Rd C i w' := h.kept hb.block
theorem Rd.alloc {C : Ctx} {i : Nat} {w : World} (h : Rd C i w) (o : Obj) : Rd C i (w.alloc o) := h.kept fun k hk => (World.grownBy_alloc w o none).block k hk (by simp)
theorem Rd.gtok {C : Ctx} {i : Nat} {w : World} (h : Rd C i w) (hne : C.l ≠ []) : C.g < w.heap.size := by
 obtain ⟨b, cap, g, a0, hb, hcap, ht, hg⟩ := h.list
 have h1 := hb hne
 have h2 := h.tok _ _ _ a0 hne
 rw [h1] at h2
 have : g = C.g := by simpa using h2
 rw [<- this]
 exact Rd.glt (i := i) ht hne
theorem Rd.set {C : Ctx} {i i0 : Nat} {w0 w : World} (h0 : Rd C i0 w0) (h : Rd C i w) {N : Nat} (hN : w0.heap.size <= N) (o : Nat) (v : Value) : Rd C i (w.setCell ⟨N, o, none⟩ v) := by
 have k1 := h0.lt
 have k2 := h0.lt0
 have k3 := h0.gtok
 have hg' : ∀ b cap g, w.cell? ⟨C.r, 0, none⟩ = some (.slice b C.l.length cap) -> (C.l ≠ [] -> b = some ⟨g, 0, none⟩) -> C.l ≠ [] -> g ≠ N := by
   intro b cap g h1 h2 hne
   have h3 := h.tok _ _ _ h1 hne
   rw [h2 hne] at h3
   have : g = C.g := by simpa using h3
   have := k3 hne
   omega
 have hs := grown_set w N o v
 have c : ∀ n x, n ≠ N -> (w.setCell ⟨N, o, none⟩ v).cell? ⟨n, x, none⟩ = w.cell? ⟨n, x, none⟩ := fun n x hn => by
   unfold World.cell?
   rw [show (⟨n, x, none⟩ : Addr).block = n from rfl, Below.heap_setCell _ _ _ _ (by simpa using hn)]
 have f : ∀ n x, n ≠ N -> (w.setCell ⟨N, o, none⟩ v).frozen? ⟨n, x, none⟩ = w.frozen? ⟨n, x, none⟩ := fun n x hn => by
   unfold World.frozen?
   rw [show (⟨n, x, none⟩ : Addr).block = n from rfl, Below.heap_setCell _ _ _ _ (by simpa using hn)]
 obtain ⟨⟨b, cap, g, a0, hb, hcap, ht, hg⟩, a1, a2, af, hle, hlen, he, hp, hk0⟩ := h
 exact ⟨⟨b, cap, g, (c _ _ (by omega)).trans a0, hb, hcap, ht.of fun hne x => c _ _ (hg' b cap g a0 hb hne), hg⟩, (c _ _ (by omega)).trans a1, (c _ _ (by omega)).trans a2, (f _ _ (by omega)).trans af, hle, hlen, (c _ _ (by omega)).trans he, hp, fun b n cap hb => hk0 b n cap ((c _ _ (by omega)).symm.trans hb)⟩
theorem Rd.next {C : Ctx} {i : Nat} {w : World} (h : Rd C i w) {j : Nat} (hj : j <= C.l.length) : Rd C j (w.setCell ⟨C.r, 1, none⟩ (.int .i64 j)) := by
 obtain ⟨⟨b, cap, g, a0, hb, hcap, ht, hg⟩, a1, a2, af, hle, hlen, he, hp, hk0⟩ := h
 have hk := grown_set w C.r 1 (.int .i64 j)
 have c : ∀ n o, n ≠ C.r -> (w.setCell ⟨C.r, 1, none⟩ (.int .i64 j)).cell? ⟨n, o, none⟩ = w.cell? ⟨n, o, none⟩ := fun n o hn => by
   simp [go_sem, hn]
 refine ⟨⟨b, cap, g, by simp [go_sem, a0], hb, hcap, ht.of fun hne o => c _ _ (hg hne), hg⟩, by simp [go_sem, a1], by simp [go_sem, a2], by simp [go_sem, af], hj, hlen, (c _ _ (by omega)).trans he, hp, fun b n cap hb => hk0 b n cap (by simpa [go_sem, a0] using hb)⟩
theorem comes_lt {l : List Item} {i : Nat} {s : ByteArray} (h : comesB l i s = true) : i < l.length := by
 unfold comesB at h
 split at h
 · rename_i t ht
   exact (List.getElem?_eq_some_iff.1 ht).1
 · cases h
theorem named_lt {l : List Item} {i : Nat} (h : namedB l i = true) : i < l.length := by
 unfold namedB at h
 split at h
 · rename_i t ht
   exact (List.getElem?_eq_some_iff.1 ht).1
 · cases h
theorem grew_next {C : Ctx} (w : World) (n : Nat) (v : Value) : Grew C w ((w.drewN n).setCell ⟨C.r, 1, none⟩ v) := by
 have h := grown_set (w.drewN n) C.r 1 v
 exact ⟨h.os, h.tape, h.output, h.size, h.block⟩
theorem grew_next2 {C : Ctx} (w : World) (n m : Nat) (v : Value) : Grew C w (((w.drewN n).setCell ⟨C.r, 1, none⟩ v).drewN m) := by
 have h := grown_set (w.drewN n) C.r 1 v
 exact ⟨h.os, h.tape, h.output, h.size, h.block⟩
theorem skip_yes (C : Ctx) (i : Nat) (s : ByteArray) (w : World) (h : Rd C i w) (hc : comesB C.l i s = true) : Calls Tryd.prog 32 #[.pointer (some ⟨C.r, 0, none⟩), .string s] w fun x w' => x = .returned (.bool true) /\ Rd C (i + 1) w' /\ Grew C w w' := by
 have hlt := comes_lt hc
 have hcom := comes_any C i s w h
 rw [hc] at hcom
 have hN := fun n => (h.drewN n).next (j := i + 1) hlt
 have HN := Lib.hid hN
 have q1 := h.ci
 have qf := h.froz
 have hl := h.len
 clear hc hN h
 go_enter Tryd.func32, Tryd.ntmps32
 go_wp2_with (go_at_call 45; refine (hcom).mono ?_; rintro e w' ⟨rfl, n, rfl⟩)
 go_ret
 rename_i n
 exact ⟨rfl, HN.out n, grew_next w n _⟩
theorem skip_no (C : Ctx) (i : Nat) (s : ByteArray) (w : World) (h : Rd C i w) (hc : comesB C.l i s = false) : Calls Tryd.prog 32 #[.pointer (some ⟨C.r, 0, none⟩), .string s] w fun x w' => x = .returned (.bool false) /\ ∃ n, w' = w.drewN n := by
 have hcom := comes_any C i s w h
 rw [hc] at hcom
 clear hc h
 go_enter Tryd.func32, Tryd.ntmps32
 go_wp2_with (go_at_call 45; refine (hcom).mono ?_; rintro e w' ⟨rfl, n, rfl⟩)
 go_ret
 exact ⟨rfl, _, rfl⟩
theorem refused_any (k p : Int) (te : TypeId) (pe : Value) (w : World) (h : w.cell? ⟨0, 0, none⟩ = some (.iface te pe)) : Calls Tryd.prog 19 #[.int .i64 k, .int .i64 p] w fun x w' => x = .returned (.pointer (some ⟨w.heap.size, 0, none⟩)) /\ w' = w.alloc (.cells #[.int .i64 k, .int .i64 p, .iface te pe] 78) := by
 go_enter Tryd.func19, Tryd.ntmps19
 go_wp2
 go_ret
 exact ⟨rfl, rfl⟩
theorem fail_any (C : Ctx) (i : Nat) (w : World) (h : Rd C i w) : Calls Tryd.prog 38 #[.pointer (some ⟨C.r, 0, none⟩)] w fun x w' => ∃ ch, x = .panicked ch /\ Fails C w (placeOf C.l C.e i) ch w' := by
 have hat := at_any C i w h
 have he := h.err
 have hr := h.lt
 clear h
 go_enter Tryd.func38, Tryd.ntmps38
 go_wp2_with (first | (go_at_call 31; refine (hat).mono ?_; rintro e w' ⟨rfl, n, rfl⟩) | (go_at_call 19; refine (refused_any _ _ C.te C.pe _ (by first | exact he | simpa using he)).mono ?_; rintro e w' ⟨rfl, rfl⟩))
 refine ⟨rfl, _, rfl, w.heap.size, rfl, Nat.le_refl _, heap_alloc_new (w.drewN n) _, ?_⟩
 have h := World.grownBy_alloc (w.drewN n) (Obj.cells #[Value.int IntKind.i64 30, Value.int IntKind.i64 (placeOf C.l C.e i), Value.iface C.te C.pe] 78) (some C.r)
 exact ⟨h.os, h.tape, h.output, h.size, h.block⟩
theorem Fails.later {C : Ctx} {w w1 w' : World} {p : Int} {ch : List PanicEntry} (hg : Grew C w w1) (h : Fails C w1 p ch w') : Fails C w p ch w' := by
 obtain ⟨q, h1, h2, h3, h4⟩ := h
 exact ⟨q, h1, Nat.le_trans hg.size h2, h3, grown_trans hg h4⟩
theorem Grew.drewN {C : Ctx} (w : World) (n : Nat) : Grew C w (w.drewN n) := ⟨rfl, rfl, rfl, Nat.le_refl _, fun _ _ _ => rfl⟩
def textAt (l : List Item) (i : Nat) : ByteArray := match l[i]? with
 | some t => t.text
 | none => ⟨#[]⟩
def numbB (l : List Item) (i : Nat) : Bool := match l[i]? with
 | some t => decide (t.kind = 1)
 | none => false
def numAtT (l : List Item) (i : Nat) : Int := match l[i]? with
 | some t => t.num
 | none => 0
theorem numb_lt {l : List Item} {i : Nat} (h : numbB l i = true) : i < l.length := by
 unfold numbB at h
 split at h
 · rename_i t ht
   exact (List.getElem?_eq_some_iff.1 ht).1
 · cases h
theorem Rd.cells {C : Ctx} {i : Nat} {w : World} (h : Rd C i w) (hi : i < C.l.length) : ∃ g cap, w.cell? ⟨C.r, 0, none⟩ = some (.slice (some ⟨g, 0, none⟩) C.l.length cap) /\ C.l.length <= cap /\ g ≠ C.r /\
   (∀ t, C.l[i]? = some t -> w.cell? ⟨g, i * 4, none⟩ = some (.int .i64 t.kind) /\ w.cell? ⟨g, i * 4 + 1, none⟩ = some (.string t.text) /\ w.cell? ⟨g, i * 4 + 2, none⟩ = some (.int .i64 t.num) /\ w.cell? ⟨g, i * 4 + 3, none⟩ = some (.int .i64 t.pos)) := by
 obtain ⟨⟨b, cap, g, h0, hb, hcap, ht, hg⟩, _⟩ := h
 have hne : C.l ≠ [] := by rintro e; rw [e] at hi; simp at hi
 obtain rfl := hb hne
 exact ⟨g, cap, h0, hcap, hg hne, fun t hx => ⟨ht.kind i t hx, ht.text i t hx, ht.num i t hx, ht.pos i t hx⟩⟩
theorem name_yes (C : Ctx) (i : Nat) (w : World) (h : Rd C i w) (hc : namedB C.l i = true) : Calls Tryd.prog 34 #[.pointer (some ⟨C.r, 0, none⟩)] w fun x w' => x = .returned (.string (textAt C.l i)) /\ Rd C (i + 1) w' /\ Grew C w w' := by
 have hlt := named_lt hc
 have hcom := named_any C i w h
 rw [hc] at hcom
 have hN := fun n => (h.drewN n).next (j := i + 1) hlt
 have HN := Lib.hid hN
 obtain ⟨g, cap, q0, hcap, hg, hx⟩ := h.cells hlt
 obtain ⟨t, ht⟩ : ∃ t, C.l[i]? = some t := ⟨_, List.getElem?_eq_getElem hlt⟩
 obtain ⟨x0, x1, x2, x3⟩ := hx t ht
 have q1 := h.ci
 have qf := h.froz
 have hl := h.len
 have e : textAt C.l i = t.text := by unfold textAt; rw [ht]
 rw [e]
 clear hc hN h hx ht e x0 x2 x3
 go_enter Tryd.func34, Tryd.ntmps34
 go_wp2_with (go_at_call 46; refine (hcom).mono ?_; rintro e w' ⟨rfl, n, rfl⟩)
 have hg' : ¬ C.r = g := fun e => hg e.symm
 go_quiet (fail)
 go_wp2
 go_ret
 have g1 := grew_next (C := C) w n (.int .i64 (↑i + 1))
 exact ⟨rfl, (HN.out n).drewN _, ⟨g1.os, g1.tape, g1.output, g1.size, g1.block⟩⟩
theorem name_no (C : Ctx) (i : Nat) (w : World) (h : Rd C i w) (hc : namedB C.l i = false) : Calls Tryd.prog 34 #[.pointer (some ⟨C.r, 0, none⟩)] w fun x w' => ∃ ch, x = .panicked ch /\ Fails C w (placeOf C.l C.e i) ch w' := by
 have hcom := named_any C i w h
 rw [hc] at hcom
 have hF := fun n => fail_any C i _ (h.drewN n)
 clear hc h
 go_enter Tryd.func34, Tryd.ntmps34
 go_wp2_with (first | (go_at_call 46; refine (hcom).mono ?_; rintro e w' ⟨rfl, n, rfl⟩) | (go_at_call 38; refine (hF _).mono ?_; rintro e w' ⟨ch, rfl, hF2⟩))
 exact ⟨rfl, _, rfl, hF2.later (Grew.drewN w _)⟩
theorem number_yes (C : Ctx) (i : Nat) (w : World) (h : Rd C i w) (hc : numbB C.l i = true) : Calls Tryd.prog 36 #[.pointer (some ⟨C.r, 0, none⟩)] w fun x w' => x = .returned (.int .i64 (numAtT C.l i)) /\ Rd C (i + 1) w' /\ Grew C w w' := by
 have hlt := numb_lt hc
 have hN := fun n => (h.drewN n).next (j := i + 1) hlt
 have HN := Lib.hid hN
 obtain ⟨g, cap, q0, hcap, hg, hx⟩ := h.cells hlt
 obtain ⟨t, ht⟩ : ∃ t, C.l[i]? = some t := ⟨_, List.getElem?_eq_getElem hlt⟩
 obtain ⟨x0, x1, x2, x3⟩ := hx t ht
 have q1 := h.ci
 have qf := h.froz
 have hl := h.len
 have e : numAtT C.l i = t.num := by unfold numAtT; rw [ht]
 have hk : t.kind = 1 := by unfold numbB at hc; rw [ht] at hc; simpa using hc
 rw [hk] at x0
 rw [e]
 have hdd : decide ((C.l.length : Int) <= (i : Int)) = false := by simp; omega
 clear hc hN h hx ht e x1 x3 hk
 go_enter Tryd.func36, Tryd.ntmps36
 go_wp2_with fail
 go_quiet (fail)
 go_wp2_with fail
 have hg' : ¬ C.r = g := fun e => hg e.symm
 go_quiet (fail)
 go_wp2
 go_ret
 exact ⟨rfl, (HN.out _).drewN _, grew_next2 _ _ _ _⟩
theorem number_no (C : Ctx) (i : Nat) (w : World) (h : Rd C i w) (hc : numbB C.l i = false) : Calls Tryd.prog 36 #[.pointer (some ⟨C.r, 0, none⟩)] w fun x w' => ∃ ch, x = .panicked ch /\ Fails C w (placeOf C.l C.e i) ch w' := by
 have hF := fun n => fail_any C i _ (h.drewN n)
 by_cases hlt : i < C.l.length
 · obtain ⟨g, cap, q0, hcap, hg, hx⟩ := h.cells hlt
   obtain ⟨t, ht⟩ : ∃ t, C.l[i]? = some t := ⟨_, List.getElem?_eq_getElem hlt⟩
   obtain ⟨x0, x1, x2, x3⟩ := hx t ht
   have q1 := h.ci
   have hl := h.len
   have hk : t.kind ≠ 1 := by unfold numbB at hc; rw [ht] at hc; simpa using hc
   have hk1 : (t.kind == 1) = false := by simp [hk]
   have hk2 : (t.kind != 1) = true := by simp [hk]
   have hdd : decide ((C.l.length : Int) <= (i : Int)) = false := by simp; omega
   clear hc h hx ht x1 x3 hk
   go_enter Tryd.func36, Tryd.ntmps36
   go_wp2_with fail
   go_quiet (fail)
   go_wp2_with (go_at_call 38; refine (hF _).mono ?_; rintro e w' ⟨ch, rfl, hF2⟩)
   exact ⟨rfl, _, rfl, hF2.later (Grew.drewN w _)⟩
 · obtain ⟨⟨b, cap, g, q0, hb, hcap, ht, hg⟩, q1, q2, qf, hle, hlen, herr, hpos, htok⟩ := h
   clear htok
   have hdd : decide ((C.l.length : Int) <= (i : Int)) = true := by simp; omega
   clear hb ht hg
   go_enter Tryd.func36, Tryd.ntmps36
   go_wp2_with fail
   go_quiet (fail)
   go_wp2_with (go_at_call 38; refine (hF _).mono ?_; rintro e w' ⟨ch, rfl, hF2⟩)
   exact ⟨rfl, _, rfl, hF2.later (Grew.drewN w _)⟩
structure Nd where
 depth : Int
 kind : Int
 name : ByteArray
 num : Int
 op : Int
 at_ : Int
def Nd.cells (n : Nd) : List Value := [.int .i64 n.depth, .int .i64 n.kind, .string n.name, .int .i64 n.num, .int .i64 n.op, .int .i64 n.at_]
theorem leaf_any (n : Nd) (b : Option Addr) (k cap : Nat) (w : World) : Calls Tryd.prog 33 #[.agg #[.int .i64 n.depth, .int .i64 n.kind, .string n.name, .int .i64 n.num, .int .i64 n.op, .int .i64 n.at_], .slice b k cap] w fun x w' => x = .returned (.pointer (some ⟨w.heap.size + 1, 0, none⟩)) /\
   w' = (w.alloc (.cells #[.int .i64 n.depth, .int .i64 n.kind, .string n.name, .int .i64 n.num, .int .i64 n.op, .int .i64 n.at_] 26)).alloc (.cells #[.int .i64 n.depth, .int .i64 n.kind, .string n.name, .int .i64 n.num, .int .i64 n.op, .int .i64 n.at_, .slice b k cap] 84) := by
 go_enter Tryd.func33, Tryd.ntmps33
 go_wp2
 go_ret
 exact ⟨rfl, rfl⟩
theorem want_yes (C : Ctx) (i : Nat) (s : ByteArray) (p : Nat) (w : World) (h : Rd C i w) (hp : w.cell? ⟨p, 0, none⟩ = some (.string s)) (hc : comesB C.l i s = true) : Calls Tryd.prog 35 #[.pointer (some ⟨C.r, 0, none⟩), .slice (some ⟨p, 0, none⟩) 1 1] w fun x w' => x = .returned (.tuple #[]) /\ Rd C (i + 1) w' /\ Grew C w w' := by
 have hS := skip_yes C i s w h hc
 clear h hc
 go_enter Tryd.func35, Tryd.ntmps35
 go_wp2
 go_loopg [8] 2 (fun g x wr => (x = .int .i64 0 /\ g = 2 /\ wr = w) \/ (x = .int .i64 1 /\ g = 1 /\ Rd C (i + 1) wr /\ Grew C w wr))
 case atStart => exact .inl ⟨rfl, rfl, rfl⟩
 case round =>
   rcases hrel with ⟨rfl, rfl, rfl⟩ | ⟨rfl, rfl, hR, hG⟩
   · go_wp2_with (go_at_call 32; refine (hS).mono ?_; rintro e w' ⟨rfl, hR, hG⟩)
     go_roundg 1
     case measure => omega
     case rel => exact .inr ⟨rfl, rfl, hR, hG⟩
   · have HR := Lib.hid hR
     have HG := Lib.hid hG
     clear hR hG hS hp
     go_wp2
     exact ⟨rfl, .tuple #[], by simp [results, Tryd.f35], rfl, HR.out, HG.out⟩
theorem want_no (C : Ctx) (i : Nat) (s : ByteArray) (p : Nat) (w : World) (h : Rd C i w) (hp : w.cell? ⟨p, 0, none⟩ = some (.string s)) (hc : comesB C.l i s = false) : Calls Tryd.prog 35 #[.pointer (some ⟨C.r, 0, none⟩), .slice (some ⟨p, 0, none⟩) 1 1] w fun x w' => ∃ ch, x = .panicked ch /\ Fails C w (placeOf C.l C.e i) ch w' := by
 have hS := skip_no C i s w h hc
 have hF := fun n => fail_any C i _ (h.drewN n)
 clear h hc
 go_enter Tryd.func35, Tryd.ntmps35
 go_wp2
 go_loopg [8] 2 (fun g x wr => x = .int .i64 0 /\ g = 2 /\ wr = w)
 case atStart => exact ⟨rfl, rfl, rfl⟩
 case round =>
   obtain ⟨rfl, rfl, rfl⟩ := hrel
   go_wp2_with (first | (go_at_call 32; refine (hS).mono ?_; rintro e w' ⟨rfl, n, rfl⟩) | (go_at_call 38; refine (hF _).mono ?_; rintro e w' ⟨ch, rfl, hF2⟩))
   exact ⟨rfl, _, rfl, hF2.later (Grew.drewN _ _)⟩
end Go.Proofs.YtonmcakdofbjiaaDoor
