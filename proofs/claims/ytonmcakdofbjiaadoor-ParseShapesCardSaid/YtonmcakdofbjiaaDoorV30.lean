/-
  The parts: base Clsd
-/
import Derived.Test.YtonmcakdofbjiaaDoorV17
import Derived.Test.YtonmcakdofbjiaaDoorV18
import Derived.Test.YtonmcakdofbjiaaDoorV29
import Derived.Test.YtonmcakdofbjiaaDoorTie
import Derived.Test.YtonmcakdofbjiaaDoorCards
import Derived.ReadAgain
set_option linter.unusedVariables false
set_option linter.unusedSimpArgs false
set_option linter.unusedSectionVars false
set_option linter.unnecessarySimpa false
set_option maxRecDepth 100000
set_option maxHeartbeats 8000000
namespace Go.Proofs.YtonmcakdofbjiaaDoor
open Go.ChangeShapes Go.WideShapes Go.ChangeAt Go.RowKit Go.Conc
theorem kidsD : Kids Tryd.prog (· < Tryd.prog.types.size) := kids_rows (by kernel_rfl) (by kernel_rfl)
theorem fullD : ∀ t e, t < Tryd.prog.types.size -> Tryd.prog.underlying t = some (.slice e) -> 0 < Tryd.prog.cellsOf e := slices_full_of Tryd.prog (by kernel_rfl)
section
variable {H : Type} {enc : TypeId × Value -> H} {P : Program} {sp : Nat -> Bool} {held : Bool}
theorem sameAt_kin {W W' : World} (K : Kin W W') {p : MemPlace} (hp : p.block < W.heap.size) : W.sameAt W' p := by
 cases p with
 | cell b off => exact World.cell?_of_block (K.block b hp)
 | map b => exact K.block b hp
theorem trodAll_kin {W W' : World} (K : Kin W W') : ∀ {ts : List TypeId} {vs : List Value} {ds : List (DataW H)} {ps : List MemPlace}, DataW.TrodAll enc P W 0 sp held ts vs ds ps -> (∀ p ∈ ps, p.block < W.heap.size) -> DataW.TrodAll enc P W' 0 sp held ts vs ds ps
 | [], [], [], _, h, _ => h
 | _ :: _, _ :: _, _ :: _, _, ⟨p, q, ⟨n, hn⟩, h2, e⟩, hs => ⟨p, q, ⟨n, DataW.trod_carry n _ _ _ hn (fun x hx => sameAt_kin K (hs x (by rw [e]; exact List.mem_append_left _ hx)))⟩, trodAll_kin K h2 (fun x hx => hs x (by rw [e]; exact List.mem_append_right _ hx)), e⟩
theorem weights_all_mem {e : TypeId} {ds : List (DataW H)} {d : DataW H} (hd : d ∈ ds) {n : Nat} (hn : n ∈ d.weights P e) : n ∈ DataW.weightsAll P e ds := by
 induction ds with
 | nil => cases hd
 | cons x ds ih =>
   simp only [DataW.weightsAll, List.mem_append]
   rcases List.mem_cons.1 hd with rfl | h
   · exact .inl hn
   · exact .inr (ih h)
theorem weights_nd (n : Nd) : n.name.size ∈ (ndData (H := H) n).weights Tryd.prog 26 := by
 have e : n.name.size = n.name.data.toList.length := Array.length_toList.symm
 rw [e]
 simp [ndData, DataW.weights, Tryd.underlying26, DataW.weightsEach]
end
theorem nd_of_list (cs : Array Value) (n : Nd) (h : cs.toList = n.cells) : Value.agg cs = .agg #[.int .i64 n.depth, .int .i64 n.kind, .string n.name, .int .i64 n.num, .int .i64 n.op, .int .i64 n.at_] := by
 congr 1
 exact Array.toList_inj.1 h
theorem shapes_lifted (os : Os) (started : os.Started) (H : Type) (enc : TypeId × Value -> H) :
   ReturnsInLeavingWide {} Tryd.checked os 3 .any (fun w args => (Rows.parseShapesSpec.pre enc Tryd.prog Tryd.f3 Rows.parseShapesRow.domain false w args /\ laidMetH Tryd.prog Rows.parseShapesRow.laid w) /\ sizedMet enc Tryd.prog Tryd.f3 (OpenSpec.ofChange Rows.parseShapesSpec) false w args)
     (Rows.parseShapesSpec.post enc Tryd.prog Tryd.f3 false true false false) := by
 refine returnsInLeavingWide_of_change_and (C := Tryd.checked) (X := fun w _ => laidMetH Tryd.prog Rows.parseShapesRow.laid w) (fun _ _ _ hh h => h.of_heap hh) own0 started Tryd.func3
   (ChangeSpec.witness_shaped (enc := enc) (C := Tryd.checked) (os := os) (X := fun w _ => laidMetH Tryd.prog Rows.parseShapesRow.laid w) false (World.laidAll Tryd.prog os Rows.parseShapesRow.laid) #[.slice none 0 0, .int .i64 0, .agg #[.int .i64 0, .int .i64 0, .string ⟨#[]⟩, .int .i64 0, .int .i64 0, .int .i64 0]] 8 (World.laidAll_os _ _ _)
     (World.shaped_of_ZipB (by kernel_rfl) (by kernel_rfl)) (by kernel_rfl) (by kernel_rfl) (by kernel_rfl)
     (by rw [MakeChecks.laidMetH_plain _ _ _ (by kernel_rfl)]; exact laidMet_laidAll _ (by kernel_rfl) (by kernel_rfl))) ?_
 intro W base args ds gs before hval0 hW _ hsz0 hL _
 have hsz : (DataW.weightsEach Tryd.prog (Tryd.f3.params.toList ++ Rows.parseShapesSpec.plain.varTypes Tryd.prog) (ds ++ gs)).all (· <= reachBytes) = true := hsz0
 have hval : ∀ (j : Nat) t v, Tryd.f3.params[j]? = some t -> args[j]? = some v -> Value.okWide Tryd.prog W .any base t v := hval0
 have hW' := hW
 have hlt : ∀ p ∈ before, p.block < W.heap.size := DataW.Whole.lt hW
 obtain ⟨p, q, hA0, hV, rfl, _, _⟩ := hW
 have hA : DataW.TrodAll enc Tryd.prog W 0 (fun _ => true) true Tryd.f3.params.toList args.toList ds p := hA0
 have hAll := hA
 rw [Tryd.params3] at hA hval hsz hAll
 obtain ⟨v0, v1, v2, d0, d1, d2, p0, p1, p2, rfl, rfl, rfl, h0, h1, h2⟩ := trodAll_three hA
 obtain ⟨rfl, rfl⟩ := trodVars_none hV
 simp only [List.append_nil] at hlt
 obtain ⟨l, hN, hs, hin, hd0⟩ := nodes_trod (okWide_slice Tryd.underlying22 (hval 0 22 v0 rfl rfl)) h0
 obtain ⟨z, rfl, rfl, rfl, hwz⟩ := open_int Tryd.underlying3 (hval 1 3 v1 rfl rfl) h1
 obtain ⟨cs, rfl, hcs⟩ := okWide_struct Tryd.underlying26 (hval 2 26 v2 rfl rfl)
 obtain ⟨fuel2, h2'⟩ := h2
 obtain ⟨n, hcn, hx, hnin⟩ := node_trod h2'
 have hv2 := nd_of_list cs n hcn
 rw [hv2] at hW' hAll
 rw [hv2]
 obtain ⟨rfl, rfl⟩ : d2 = ndData n /\ p2 = [] := by simpa using hx
 have hnm : n.name.size <= 140737488355328 := by
   have := of_decide_eq_true (List.all_eq_true.1 hsz n.name.size (DataW.weights_mem_each (j := 2) (t := 26) (d := ndData n) rfl rfl _ (weights_nd n)))
   exact Nat.le_trans this (by unfold reachBytes; decide)
 have hlen : (l.length + 1) * 56 <= 140737488355328 := by
   rcases hd0 with ⟨_, rfl⟩ | ⟨sp, rfl⟩
   · decide
   · have hb : (l.map (ndData (H := H))).length + sp.length = l.length + sp.length := by rw [List.length_map]
     have := sized_slice hsz (j := 0) (t := 22) (e := 26) rfl rfl Tryd.underlying22
     rw [hb, show Tryd.prog.bytesOf 26 = 56 by kernel_rfl] at this
     have h2 : reachBytes = 140737488351232 := by decide
     rw [h2] at this
     have : l.length * 56 <= (l.length + sp.length) * 56 := Nat.mul_le_mul_right _ (by omega)
     omega
 have hl : ∀ x ∈ l, NdOk x := fun x hx => by
   refine ⟨?_, hin x hx⟩
   rcases hd0 with ⟨_, rfl⟩ | ⟨sp, rfl⟩
   · cases hx
   · have hw : x.name.size ∈ (DataW.slice (l.map (ndData (H := H))) sp).weights Tryd.prog 22 := by
       simp only [DataW.weights, Tryd.underlying22, List.mem_cons, List.mem_append]
       exact .inr (.inl (weights_all_mem (List.mem_map.2 ⟨x, hx, rfl⟩) (weights_nd x)))
     have := of_decide_eq_true (List.all_eq_true.1 hsz x.name.size (DataW.weights_mem_each (j := 0) (t := 22) rfl rfl _ hw))
     exact Nat.le_trans this (by unfold reachBytes; decide)
 obtain ⟨l1, l2, b, hr⟩ := laid_vars hL
 have hsize : Tryd.prog.globals.size <= W.heap.size := by
   have e : Tryd.prog.globals.size = 6 := by kernel_rfl
   obtain ⟨_, _, _, h9, _⟩ := l1 5 (.inr (.inr rfl))
   have hlt : 5 < W.heap.size := (Array.getElem?_eq_some_iff.1 h9).1
   omega
 have hcall := moves_any Tryd.tame W ⟨l1, l2, hsize⟩ 123 _ hr l hl hlen v0 hN hs n ⟨hnm, hnin⟩ z
 have hcall2 : Bsd.CallsB Tryd.prog 3 #[v0, .int .i64 z, .agg #[.int .i64 n.depth, .int .i64 n.kind, .string n.name, .int .i64 n.num, .int .i64 n.op, .int .i64 n.at_]] W (fun | .returned v, w' => v = .bool true /\ Kin W w' | _, _ => False) := hcall.mono fun e w' h => by
   cases e with
   | returned v => exact h
   | panicked c => exact h
   | outgrown => exact h
 obtain ⟨M, last, o, w', t', r1, r2, r3, r4⟩ := Bsd.callsB_run Tryd.tame Tryd.func3 (Post := fun v w' => v = .bool true /\ Kin W w') rfl (by kernel_rfl) rfl (fun v w T d h => ⟨h.1, h.2.trans (kin_re w T d)⟩) hcall2
 refine ⟨M, last, o, w', t', r1, r2, r3, r4.mono fun v hF => ?_⟩
 obtain ⟨rfl, hk⟩ := hF
 have hback := trodAll_kin hk (DataW.TrodAll.respare (spare' := fun b => decide (b < W.heap.size)) kidsD fullD (by decide +kernel) hAll (fun p hp => decide_eq_true (hlt p hp))) hlt
 exact ⟨_, _, _, [], _, [], hW', trodAll_mk1 (shut_bool Tryd.underlying4 true), by rw [Tryd.params3]; exact hback, rfl, kept_of_kin hk _, fun h => by cases h⟩
theorem shapes_row : Rows.ParseShapesSaid :=
 OpenClaim.holds_of_wide_leaving 3 Tryd.f3 rfl rfl rfl rfl rfl rfl rfl ⟨rfl, rfl, rfl, rfl, rfl⟩ rfl rfl rfl rfl rfl (by kernel_rfl) Tryd.func3 (by kernel_rfl)
   (of_decide_eq_true (by kernel_rfl)) (by unfold Func.isWrapper; first | (rw [if_pos (by decide +kernel)]; kernel_rfl) | (rw [if_neg (by decide +kernel)]; exact ⟨rfl, rfl⟩))
   (fun os started H enc _ => shapes_lifted os started H enc)
theorem shapes_card : Rows.ParseShapesCardSaid :=
 holds_tied_goes .later [.data, .data, .data, .sentinel, .sentinel, .sentinel] true (true, "2f2e6bdcf460fbb151acdf70166fff4c7d4f0b3aeb52da7e589f803263a67b7a") true
   shapes_row (by kernel_rfl) parseShapes_row_tie rfl ⟨rfl, rfl⟩ (by kernel_rfl) rfl
   (fun f fn hf hfn => by
     obtain rfl : f = 3 := Option.some.inj ((show Tryd.prog.funcNamed "winnow/winnowlaw03.ParseShapes" = some 3 by kernel_rfl).symm.trans hf) |>.symm
     obtain rfl : fn = Tryd.f3 := (Option.some.inj (Tryd.func3.symm.trans hfn)).symm
     exact ⟨by kernel_rfl, fun j t ht => by
       rw [Tryd.params3] at ht
       have hm : t ∈ [22, 3, 26] := by simpa using Array.mem_of_getElem? ht
       have hall : ([22, 3, 26].all fun u => !Tryd.prog.wantsStandIn u) = true := by kernel_rfl
       exact (show Tryd.prog.wantsStandIn t = false by simpa using List.all_eq_true.1 hall t hm)⟩)
   (by kernel_rfl)
end Go.Proofs.YtonmcakdofbjiaaDoor
