/-
  winnowlaw03.ParseWraps answers true at every text, and leaves its text as it was: the row, and the tied card. Conditions: those of the given statement.
-/
import Derived.Test.YtonmcakdofbjiaaGreatDoorW28
import Derived.Test.YtonmcakdofbjiaaGreatDoorProg
import Derived.Test.YtonmcakdofbjiaaGreatDoorW27
import Derived.Test.YtonmcakdofbjiaaGreatDoorTie
import Derived.Test.YtonmcakdofbjiaaGreatDoorCards
import Derived.Conc.LeavingOf
import Derived.Conc.Holds
import Derived.SevenTiedAt
import Derived.Stop.Joined
set_option linter.unusedVariables false
set_option linter.unusedSimpArgs false
set_option linter.unusedSectionVars false
set_option linter.unnecessarySimpa false
namespace Go.Proofs
open Go.Bsd
theorem allAny_get {P : Program} {l : List (String × (Array Value → Sem Value))} (h : AllAny P l) {n : Nat} {e : Array Value → Sem Value} (he : (l[n]?).map (fun x => x.2) = some e) : ∀ a, Any P (e a) := by
  cases hx : l[n]? with
  | none => rw [hx] at he; cases he
  | some x =>
    rw [hx] at he
    simp only [Option.map_some, Option.some.injEq] at he
    subst he
    exact h x (List.mem_of_getElem? hx)
def tameB (k : List Nat) (x : Func × Nat) : Bool := !(x.1.name == "runtime.NumGoroutine") && (x.1.body.isSome || ((Extern.findNext x.1).isNone && (k.contains x.2 || (Extern.find x.1).isNone)))
theorem tame_check {P : Program} (k : List Nat) (h : (P.funcs.toList.zipIdx).all (tameB k) = true) (hk : ∀ (f : FuncId) (fn : Func), f ∈ k → P.funcs[f]? = some fn → ∀ e, Extern.find fn = some e → ∀ a, Any P (e a)) : TameProg P := by
  have get : ∀ (f : FuncId) (fn : Func), P.funcs[f]? = some fn → tameB k (fn, f) = true := fun f fn hf => by
    rw [List.all_eq_true] at h
    refine h _ ?_
    rw [List.mem_zipIdx_iff_getElem?]
    simpa using hf
  refine ⟨fun f fn hf => ?_, fun f fn hf hb => ?_, fun f fn hf hb e he => ?_⟩
  · have := get f fn hf
    unfold tameB at this
    simp only [Bool.and_eq_true, Bool.not_eq_true'] at this
    exact this.1
  · have := get f fn hf
    unfold tameB at this
    simp only [Bool.and_eq_true, Bool.or_eq_true] at this
    rcases this.2 with h' | h'
    · cases hx : fn.body <;> simp [hx] at h' hb
    · simpa using h'.1
  · have := get f fn hf
    unfold tameB at this
    simp only [Bool.and_eq_true, Bool.or_eq_true] at this
    rcases this.2 with h' | h'
    · cases hx : fn.body <;> simp [hx] at h' hb
    · rcases h'.2 with h2 | h2
      · exact hk f fn (by simpa using h2) hf e he
      · rw [he] at h2; cases h2
theorem Tryz.row58 : Extern.find Tryz.f58 = (Extern.ReflectliteType.rows[0]?).map (fun x => x.2) := by kernel_rfl
theorem Tryz.row107 : Extern.find Tryz.f107 = (Extern.ReflectliteValue.rows[0]?).map (fun x => x.2) := by kernel_rfl
theorem Tryz.row108 : Extern.find Tryz.f108 = (Extern.ReflectliteValue.rows[3]?).map (fun x => x.2) := by kernel_rfl
theorem Tryz.row109 : Extern.find Tryz.f109 = (Extern.ReflectliteValue.rows[5]?).map (fun x => x.2) := by kernel_rfl
theorem Tryz.row138 : Extern.find Tryz.f138 = (Extern.ReflectliteValue.rows[7]?).map (fun x => x.2) := by kernel_rfl
theorem Tryz.row139 : Extern.find Tryz.f139 = (Extern.ReflectliteValue.rows[8]?).map (fun x => x.2) := by kernel_rfl
theorem Tryz.row195 : Extern.find Tryz.f195 = (Extern.RuntimeError.rows[4]?).map (fun x => x.2) := by kernel_rfl
theorem Tryz.row196 : Extern.find Tryz.f196 = (Extern.RuntimeError.rows[11]?).map (fun x => x.2) := by kernel_rfl
theorem Tryz.row197 : Extern.find Tryz.f197 = (Extern.RuntimeError.rows[0]?).map (fun x => x.2) := by kernel_rfl
theorem Tryz.row198 : Extern.find Tryz.f198 = (Extern.RuntimeError.rows[8]?).map (fun x => x.2) := by kernel_rfl
theorem Tryz.row199 : Extern.find Tryz.f199 = (Extern.RuntimeError.rows[1]?).map (fun x => x.2) := by kernel_rfl
theorem Tryz.row200 : Extern.find Tryz.f200 = (Extern.RuntimeError.rows[9]?).map (fun x => x.2) := by kernel_rfl
theorem Tryz.row201 : Extern.find Tryz.f201 = (Extern.RuntimeError.rows[2]?).map (fun x => x.2) := by kernel_rfl
theorem Tryz.row202 : Extern.find Tryz.f202 = (Extern.RuntimeError.rows[10]?).map (fun x => x.2) := by kernel_rfl
theorem Tryz.row203 : Extern.find Tryz.f203 = (Extern.RuntimeError.rows[5]?).map (fun x => x.2) := by kernel_rfl
theorem Tryz.row204 : Extern.find Tryz.f204 = (Extern.RuntimeError.rows[12]?).map (fun x => x.2) := by kernel_rfl
theorem Tryz.row205 : Extern.find Tryz.f205 = (Extern.RuntimeError.rows[6]?).map (fun x => x.2) := by kernel_rfl
theorem Tryz.row206 : Extern.find Tryz.f206 = (Extern.RuntimeError.rows[13]?).map (fun x => x.2) := by kernel_rfl
theorem Tryz.row209 : Extern.find Tryz.f209 = (Extern.ReflectliteType.rows[9]?).map (fun x => x.2) := by kernel_rfl
theorem Tryz.row210 : Extern.find Tryz.f210 = (Extern.RuntimeError.rows[7]?).map (fun x => x.2) := by kernel_rfl
theorem Tryz.row211 : Extern.find Tryz.f211 = (Extern.RuntimeError.rows[14]?).map (fun x => x.2) := by kernel_rfl
theorem Tryz.row215 : Extern.find Tryz.f215 = (Extern.ReflectliteType.rows[10]?).map (fun x => x.2) := by kernel_rfl
theorem Tryz.row216 : Extern.find Tryz.f216 = (Extern.ReflectliteType.rows[7]?).map (fun x => x.2) := by kernel_rfl
theorem Tryz.row217 : Extern.find Tryz.f217 = (Extern.ReflectliteType.rows[2]?).map (fun x => x.2) := by kernel_rfl
theorem Tryz.row218 : Extern.find Tryz.f218 = (Extern.ReflectliteType.rows[1]?).map (fun x => x.2) := by kernel_rfl
theorem Tryz.row219 : Extern.find Tryz.f219 = (Extern.ReflectliteType.rows[6]?).map (fun x => x.2) := by kernel_rfl
theorem Tryz.row220 : Extern.find Tryz.f220 = (Extern.ReflectliteType.rows[4]?).map (fun x => x.2) := by kernel_rfl
theorem Tryz.row221 : Extern.find Tryz.f221 = (Extern.ReflectliteType.rows[5]?).map (fun x => x.2) := by kernel_rfl
theorem Tryz.row222 : Extern.find Tryz.f222 = (Extern.ReflectliteType.rows[3]?).map (fun x => x.2) := by kernel_rfl
theorem Tryz.row223 : Extern.find Tryz.f223 = (Extern.ReflectliteType.rows[8]?).map (fun x => x.2) := by kernel_rfl
theorem Tryz.row225 : Extern.find Tryz.f225 = (Extern.ReflectliteValue.rows[9]?).map (fun x => x.2) := by kernel_rfl
theorem Tryz.row227 : Extern.find Tryz.f227 = (Extern.ReflectliteValue.rows[2]?).map (fun x => x.2) := by kernel_rfl
theorem Tryz.row228 : Extern.find Tryz.f228 = (Extern.ReflectliteType.rows[11]?).map (fun x => x.2) := by kernel_rfl
theorem Tryz.tame : TameProg Tryz.prog := by
  refine tame_check [58, 107, 108, 109, 138, 139, 195, 196, 197, 198, 199, 200, 201, 202, 203, 204, 205, 206, 209, 210, 211, 215, 216, 217, 218, 219, 220, 221, 222, 223, 225, 227, 228] (by kernel_rfl) fun f fn hm hf e he => ?_
  simp only [List.mem_cons, List.not_mem_nil, or_false] at hm
  rcases hm with rfl | rfl | rfl | rfl | rfl | rfl | rfl | rfl | rfl | rfl | rfl | rfl | rfl | rfl | rfl | rfl | rfl | rfl | rfl | rfl | rfl | rfl | rfl | rfl | rfl | rfl | rfl | rfl | rfl | rfl | rfl | rfl | rfl
  · obtain rfl := Option.some.inj (Tryz.func58.symm.trans hf)
    exact allAny_get allAny_types (Tryz.row58.symm.trans he)
  · obtain rfl := Option.some.inj (Tryz.func107.symm.trans hf)
    exact allAny_get allAny_values (Tryz.row107.symm.trans he)
  · obtain rfl := Option.some.inj (Tryz.func108.symm.trans hf)
    exact allAny_get allAny_values (Tryz.row108.symm.trans he)
  · obtain rfl := Option.some.inj (Tryz.func109.symm.trans hf)
    exact allAny_get allAny_values (Tryz.row109.symm.trans he)
  · obtain rfl := Option.some.inj (Tryz.func138.symm.trans hf)
    exact allAny_get allAny_values (Tryz.row138.symm.trans he)
  · obtain rfl := Option.some.inj (Tryz.func139.symm.trans hf)
    exact allAny_get allAny_values (Tryz.row139.symm.trans he)
  · obtain rfl := Option.some.inj (Tryz.func195.symm.trans hf)
    exact allAny_get allAny_errors (Tryz.row195.symm.trans he)
  · obtain rfl := Option.some.inj (Tryz.func196.symm.trans hf)
    exact allAny_get allAny_errors (Tryz.row196.symm.trans he)
  · obtain rfl := Option.some.inj (Tryz.func197.symm.trans hf)
    exact allAny_get allAny_errors (Tryz.row197.symm.trans he)
  · obtain rfl := Option.some.inj (Tryz.func198.symm.trans hf)
    exact allAny_get allAny_errors (Tryz.row198.symm.trans he)
  · obtain rfl := Option.some.inj (Tryz.func199.symm.trans hf)
    exact allAny_get allAny_errors (Tryz.row199.symm.trans he)
  · obtain rfl := Option.some.inj (Tryz.func200.symm.trans hf)
    exact allAny_get allAny_errors (Tryz.row200.symm.trans he)
  · obtain rfl := Option.some.inj (Tryz.func201.symm.trans hf)
    exact allAny_get allAny_errors (Tryz.row201.symm.trans he)
  · obtain rfl := Option.some.inj (Tryz.func202.symm.trans hf)
    exact allAny_get allAny_errors (Tryz.row202.symm.trans he)
  · obtain rfl := Option.some.inj (Tryz.func203.symm.trans hf)
    exact allAny_get allAny_errors (Tryz.row203.symm.trans he)
  · obtain rfl := Option.some.inj (Tryz.func204.symm.trans hf)
    exact allAny_get allAny_errors (Tryz.row204.symm.trans he)
  · obtain rfl := Option.some.inj (Tryz.func205.symm.trans hf)
    exact allAny_get allAny_errors (Tryz.row205.symm.trans he)
  · obtain rfl := Option.some.inj (Tryz.func206.symm.trans hf)
    exact allAny_get allAny_errors (Tryz.row206.symm.trans he)
  · obtain rfl := Option.some.inj (Tryz.func209.symm.trans hf)
    exact allAny_get allAny_types (Tryz.row209.symm.trans he)
  · obtain rfl := Option.some.inj (Tryz.func210.symm.trans hf)
    exact allAny_get allAny_errors (Tryz.row210.symm.trans he)
  · obtain rfl := Option.some.inj (Tryz.func211.symm.trans hf)
    exact allAny_get allAny_errors (Tryz.row211.symm.trans he)
  · obtain rfl := Option.some.inj (Tryz.func215.symm.trans hf)
    exact allAny_get allAny_types (Tryz.row215.symm.trans he)
  · obtain rfl := Option.some.inj (Tryz.func216.symm.trans hf)
    exact allAny_get allAny_types (Tryz.row216.symm.trans he)
  · obtain rfl := Option.some.inj (Tryz.func217.symm.trans hf)
    exact allAny_get allAny_types (Tryz.row217.symm.trans he)
  · obtain rfl := Option.some.inj (Tryz.func218.symm.trans hf)
    exact allAny_get allAny_types (Tryz.row218.symm.trans he)
  · obtain rfl := Option.some.inj (Tryz.func219.symm.trans hf)
    exact allAny_get allAny_types (Tryz.row219.symm.trans he)
  · obtain rfl := Option.some.inj (Tryz.func220.symm.trans hf)
    exact allAny_get allAny_types (Tryz.row220.symm.trans he)
  · obtain rfl := Option.some.inj (Tryz.func221.symm.trans hf)
    exact allAny_get allAny_types (Tryz.row221.symm.trans he)
  · obtain rfl := Option.some.inj (Tryz.func222.symm.trans hf)
    exact allAny_get allAny_types (Tryz.row222.symm.trans he)
  · obtain rfl := Option.some.inj (Tryz.func223.symm.trans hf)
    exact allAny_get allAny_types (Tryz.row223.symm.trans he)
  · obtain rfl := Option.some.inj (Tryz.func225.symm.trans hf)
    exact allAny_get allAny_values (Tryz.row225.symm.trans he)
  · obtain rfl := Option.some.inj (Tryz.func227.symm.trans hf)
    exact allAny_get allAny_values (Tryz.row227.symm.trans he)
  · obtain rfl := Option.some.inj (Tryz.func228.symm.trans hf)
    exact allAny_get allAny_types (Tryz.row228.symm.trans he)
end Go.Proofs
namespace Go.Proofs.YtonmcakdofbjiaaGreatDoor
open Go.ChangeShapes Go.WideShapes Go.ChangeAt Go.RowKit Go.Conc
set_option maxRecDepth 100000
section
variable {H : Type} {enc : TypeId × Value → H}
theorem returnsInLeavingWide_of_change_and {a : Assume} {C : Checked} {os : Os} {f : FuncId} {fn : Func} {s : ChangeSpec} {conds : List PathCond} {apart fresh handsOn again : Bool} {X : World → Array Value → Prop}
    (hX : ∀ (w w' : World) (args : Array Value), w.heap = w'.heap → X w args → X w' args)
    (own : ownKnob C.prog.godebug = none) (started : os.Started) (hfn : C.prog.funcs[f]? = some fn)
    (witness : ∃ (w : World) (tape : Tape) (i : Input), w.os = os ∧ (w.forCall tape i).Shaped C.prog ∧ i.vars = [] ∧ Input.okWide C.prog (w.forCall tape i) .any w.heap.size f i ∧
      ((s.pre enc C.prog fn conds apart (w.forCall tape i).memory i.args ∧ X (w.forCall tape i).memory i.args) ∧ sizedMet enc C.prog fn (OpenSpec.ofChange s) apart (w.forCall tape i).memory i.args) ∧ a.holds C.prog (lone (Frame.enter C.prog f i.args .normal) [] (w.forCall tape i)))
    (runs : ∀ (W : World) (base : Nat) (args : Array Value) (ds gs : List (DataW H)) (before : List MemPlace),
      (∀ (j : Nat) t v, fn.params[j]? = some t → args[j]? = some v → Value.okWide C.prog W .any base t v) →
      DataW.Whole enc C.prog fn.params.toList s.vars apart W args.toList ds gs before →
      conds.all (PathCond.test C.prog ⟨fn.params.toList, ds, s.plain.varTypes C.prog, gs⟩) = true →
      (DataW.weightsEach C.prog (fn.params.toList ++ s.plain.varTypes C.prog) (ds ++ gs)).all (· ≤ reachBytes) = true → X W args →
      a.holds C.prog (lone (Frame.enter C.prog f args .normal) [] W) →
      ∃ M last o w' t', runNT C.prog (M + 1) (solo (G (Frame.enter C.prog f args .normal) []) W) #[] = (.ended o w', t') ∧ runN C.prog M (solo (G (Frame.enter C.prog f args .normal) []) W) = .next last ∧
        step C.prog last = .ended o w' ∧ Conc.Good C.prog (fun v W' => s.post enc C.prog fn apart fresh handsOn again W args v W') last o w' t') :
    ReturnsInLeavingWide a C os f .any (fun w args => (s.pre enc C.prog fn conds apart w args ∧ X w args) ∧ sizedMet enc C.prog fn (OpenSpec.ofChange s) apart w args) (s.post enc C.prog fn apart fresh handsOn again) := by
  refine returnsInLeavingWide_of_good own started witness ?_
  intro w tape i _ _ _ hok hpre hholds
  obtain ⟨_, _, _, fn', hfn', _, _, _, _, hval⟩ := hok
  have e : fn' = fn := Option.some.inj (hfn'.symm.trans hfn)
  subst e
  obtain ⟨⟨⟨ds, gs, before, hw, hc⟩, hx⟩, hz⟩ := hpre
  have hw' := DataW.Whole.of_heap (w' := w.forCall tape i) (by rfl) hw
  obtain ⟨M, last, o, w', t', h1, h2, h3, h4⟩ := runs (w.forCall tape i) w.heap.size i.args ds gs before hval hw' hc (hz.weights hw) (hX _ _ _ (by rfl) hx) hholds
  exact ⟨M, last, o, w', t', h1, h2, h3, h4.mono fun v hp => ChangeSpec.post_blind hp⟩
end
theorem own0 : ownKnob Tryz.prog.godebug = none := by kernel_rfl
theorem kept_of_kin {W w' : World} (h : Kin W w') (may : MemPlace → Prop) : W.keptBut w' may := by
  refine ⟨h.os, h.out, fun i hi => ?_⟩
  rw [h.block i hi]
  split <;> simp_all
set_option maxRecDepth 100000 in
theorem wraps_lifted (os : Os) (started : os.Started) (H : Type) (enc : TypeId × Value → H) :
    ReturnsInLeavingWide {} Tryz.checked os 5 .any (fun w args => (Rows.parseWrapsSpec.pre enc Tryz.prog Tryz.f5 Rows.parseWrapsRow.domain false w args ∧ laidMetH Tryz.prog Rows.parseWrapsRow.laid w) ∧ sizedMet enc Tryz.prog Tryz.f5 (OpenSpec.ofChange Rows.parseWrapsSpec) false w args)
      (Rows.parseWrapsSpec.post enc Tryz.prog Tryz.f5 false true false false) := by
  refine returnsInLeavingWide_of_change_and (C := Tryz.checked) (X := fun w _ => laidMetH Tryz.prog Rows.parseWrapsRow.laid w) (fun _ _ _ hh h => h.of_heap hh) own0 started Tryz.func5
    (ChangeSpec.witness_shaped (enc := enc) (C := Tryz.checked) (os := os) (X := fun w _ => laidMetH Tryz.prog Rows.parseWrapsRow.laid w) false (World.laidAll Tryz.prog os Rows.parseWrapsRow.laid) #[.string ⟨#[]⟩] 8 (World.laidAll_os _ _ _)
      (World.shaped_of_ZipB (by kernel_rfl) (by kernel_rfl)) (by kernel_rfl) (by kernel_rfl) (by kernel_rfl)
      (by rw [MakeChecks.laidMetH_plain _ _ _ (by kernel_rfl)]; exact laidMet_laidAll _ (by kernel_rfl) (by kernel_rfl))) ?_
  intro W base args ds gs before hval0 hW _ hsz0 hL _
  have hsz : (DataW.weightsEach Tryz.prog (Tryz.f5.params.toList ++ Rows.parseWrapsSpec.plain.varTypes Tryz.prog) (ds ++ gs)).all (· ≤ reachBytes) = true := hsz0
  have hval : ∀ (j : Nat) t v, Tryz.f5.params[j]? = some t → args[j]? = some v → Value.okWide Tryz.prog W .any base t v := hval0
  have hW' := hW
  obtain ⟨p, q, hA0, hV, rfl, _, _⟩ := hW
  have hA : DataW.TrodAll enc Tryz.prog W 0 (fun _ => true) true Tryz.f5.params.toList args.toList ds p := hA0
  rw [Tryz.params5] at hA hval hsz
  obtain ⟨v0, d0, rfl, rfl, h0⟩ := trodAll_one hA
  obtain ⟨rfl, rfl⟩ := trodVars_none hV
  obtain ⟨s, rfl, rfl, rfl, ws⟩ := Go.ChangeMaps.open_string Tryz.underlying9 (hval 0 9 v0 rfl rfl) h0
  simp only [List.append_nil] at hW'
  have hreach : s.size ≤ 140737488355328 := by
    have := sized_string hsz (j := 0) (t := 9) (bytes := s.data.toList) rfl rfl
    have e : s.data.toList.length = s.size := Array.length_toList
    rw [e] at this
    exact Nat.le_trans this (by unfold reachBytes; decide)
  obtain ⟨l1, l2, b, b2, hS⟩ := laid_vars hL
  have hsize : Tryz.prog.globals.size ≤ W.heap.size := by
    obtain ⟨_, _, _, _, h9⟩ := l2 9 (.inr rfl)
    have hlt : 9 < W.heap.size := (Array.getElem?_eq_some_iff.1 h9).1
    have e : Tryz.prog.globals.size = 10 := by kernel_rfl
    omega
  obtain ⟨x, y, hbad⟩ := tail_bad s
  have hz : (s ++ badTail).size ≤ 9223372036854775807 := by
    have e : (s ++ badTail).size = s.size + 4 := by rw [ByteArray.size_append]; rfl
    omega
  have hcall := wraps_any Tryz.tame W ⟨l1, l2, hsize⟩ b b2 hS s hz (by omega) x y hbad
  have hcall2 : Bsd.CallsB Tryz.prog 5 #[.string s] W (fun | .returned v, w' => v = .bool true ∧ Kin W w' | _, _ => False) := hcall.mono fun e w' h => by
    cases e with
    | returned v => exact h
    | panicked c => exact h
    | outgrown => exact h
  obtain ⟨M, last, o, w', t', r1, r2, r3, r4⟩ := Bsd.callsB_run Tryz.tame Tryz.func5 (Post := fun v w' => v = .bool true ∧ Kin W w') rfl (by kernel_rfl) rfl (fun v w T d h => ⟨h.1, h.2.trans (kin_re w T d)⟩) hcall2
  refine ⟨M, last, o, w', t', r1, r2, r3, r4.mono fun v hF => ?_⟩
  obtain ⟨rfl, hk⟩ := hF
  exact ⟨_, _, _, [], [], [], hW', trodAll_mk1 (shut_bool Tryz.underlying4 true), trodAll_mk1 (Go.ChangeMaps.shut_string Tryz.underlying9 ws), rfl, kept_of_kin hk _, fun h => by cases h⟩
theorem wraps_row : Rows.ParseWrapsSaid :=
  OpenClaim.holds_of_wide_leaving 5 Tryz.f5 rfl rfl rfl rfl rfl rfl rfl ⟨rfl, rfl, rfl, rfl, rfl⟩ rfl rfl rfl rfl rfl (by kernel_rfl) Tryz.func5 (by kernel_rfl)
    (of_decide_eq_true (by kernel_rfl)) (by unfold Func.isWrapper; first | (rw [if_pos (by decide +kernel)]; kernel_rfl) | (rw [if_neg (by decide +kernel)]; exact ⟨rfl, rfl⟩))
    (fun os started H enc _ => wraps_lifted os started H enc)
theorem holds_tied_goes (Lk : Looks) {p : Pinned} {s : OpenSpec} {c : OpenClaim} (kinds : List LaidKind) (tests : Bool) (har : Bool × String) (lk : Bool)
    (hc : c.holds p s) (hw : c.wfByText s = true) (htie : c.laidByTextAt Lk p kinds tests)
    (hst : c.start = .entering) (hnb : c.noBlocks = false ∧ c.again = false) (hm : p.checked.prog.mainIs = some (har.1, har.2.toList)) (hn : (!har.1 && har.2.isEmpty && !lk) = false)
    (hl : ∀ f fn, p.checked.prog.funcNamed c.func = some f → p.checked.prog.funcs[f]? = some fn → lk = p.checked.prog.looks [] ∧ ∀ (j : Nat) t, fn.params[j]? = some t → p.checked.prog.wantsStandIn t = false)
    (hg : true = c.goesBy p.checked.prog) :
    Claim7.holds p (.plain s) { stood := { row := c, standIns := [], harness := har, looks := lk }, kinds := [], alts := [], goes := true, laidByText := true, laidKinds := kinds, laidTests := tests, laidLooks := Lk } := by
  have h6 : ∀ r : OpenClaim, Claim7.isSixth { stood := { row := r, standIns := [], harness := har, looks := lk }, kinds := [] } = false := fun r => by simpa [Claim7.isSixth] using hn
  have ht := Claim7.tied_new_at Lk kinds tests (Claim7.new_of_sixth hc har lk hst hnb hm (h6 c) hl) hw
  refine ⟨ht, fun D hD => ?_, htie, (fun h => by cases h), hg⟩
  cases hD
theorem wraps_card : Rows.ParseWrapsCardSaid :=
  holds_tied_goes .later [.data, .data, .data, .sentinel, .sentinel, .sentinel, .sentinel] true (true, "074e5f031ab4408176da533a2cefdc3afa561c3d929ccf1498e46e2ed11c108f") true
    wraps_row (by kernel_rfl) parseWraps_row_tie rfl ⟨rfl, rfl⟩ (by kernel_rfl) rfl
    (fun f fn hf hfn => by
      obtain rfl : f = 5 := Option.some.inj ((show Tryz.prog.funcNamed "winnow/winnowlaw03.ParseWraps" = some 5 by kernel_rfl).symm.trans hf) |>.symm
      obtain rfl : fn = Tryz.f5 := (Option.some.inj (Tryz.func5.symm.trans hfn)).symm
      exact ⟨by kernel_rfl, fun j t ht => by
        rw [Tryz.params5] at ht
        have hm : t ∈ [9] := by simpa using Array.mem_of_getElem? ht
        have hall : ([9].all fun u => !Tryz.prog.wantsStandIn u) = true := by kernel_rfl
        exact (show Tryz.prog.wantsStandIn t = false by simpa using List.all_eq_true.1 hall t hm)⟩)
    (by kernel_rfl)
end Go.Proofs.YtonmcakdofbjiaaGreatDoor
