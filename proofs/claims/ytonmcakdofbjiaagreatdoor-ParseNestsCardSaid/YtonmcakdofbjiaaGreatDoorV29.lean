/-
  The parts: Fix3 Com
-/
import Derived.Test.YtonmcakdofbjiaaGreatDoorV28
import Derived.Test.YtonmcakdofbjiaaGreatDoorV18
import Derived.Test.YtonmcakdofbjiaaGreatDoorV19
import Derived.Test.YtonmcakdofbjiaaGreatDoorV4
set_option linter.unusedVariables false
set_option linter.unusedSimpArgs false
set_option linter.unusedSectionVars false
set_option linter.unnecessarySimpa false
set_option maxRecDepth 100000
set_option maxHeartbeats 8000000
namespace Go.Proofs.YtonmcakdofbjiaaGreatDoor
open Go.RowKit Go.Bsd
theorem fixed_any (hP : TameProg Tryz.prog) (te : TypeId) (pe : Value) (w : World) (hv : VarsOk w) (ce : w.cell? ⟨0, 0, none⟩ = some (.iface te pe)) : CallsB Tryz.prog 13 #[] w (TrueP w) := by
 have hR : ∀ w', ¬ TrueP w .outgrown w' := fun w' h => h
 refine callsB_of_wpB hP Tryz.func13 (c := fx0) rfl hR ?_
 rw [fx0_is]
 have ha : (#[] ++ Array.replicate (Tryz.f13.ntmps - (#[] : Array Value).size) undef) = #[undef, undef, undef, undef, undef, undef, undef, undef, undef, undef, undef, undef, undef, undef, undef, undef, undef, undef, undef, undef, undef, undef, undef, undef, undef, undef, undef, undef, undef, undef, undef, undef, undef, undef, undef, undef, undef, undef, undef, undef, undef, undef, undef, undef, undef, undef, undef, undef, undef, undef] := by
   simp only [Tryz.ntmps13]
   simp [Array.replicate_succ]
 rw [ha]
 clear ha
 refine wpB_seq_lone hP fun T d => ?_
 generalize hB : bodyPost Tryz.prog Tryz.f13 (TrueP w) = B
 have HB := Lib.hid hB
 clear hB
 generalize hY : (Code.seq fx1 fx2) = Y
 have HP := Lib.hid (parse_any hP fixedText (by decide) te pe w hv ce _ fixed_parses)
 clear hv ce
 simp only [seqL, fx0, Tryz.f13, Option.getD_some]
 go_wp2
 subst hY
 refine wpB_tape ?_
 refine wpB_seq hP ?_
 obtain ⟨id, hid⟩ := fx1_is
 rw [hid]
 clear hid
 generalize hX : fx2 = X
 simp only [fx1, fx0, seqL, seqR, regOps, Tryz.f13, Option.getD_some]
 subst hX
 refine wpB_region hP (l := [_, _, _, _, _, _]) ?_
 refine listB_fn hP Tryz.func14 (by kernel_rfl) (by kernel_rfl) rfl rfl (args := #[.string fixedText]) (by simp [Act.eval, evalT, fixedText]) (HP.out.mono ?_)
 rintro e w1 hpost
 cases e with
 | outgrown => exact hpost.elim
 | panicked _ => exact hpost.elim
 | returned v =>
   obtain ⟨kin, sl, rfl, hown⟩ := hpost
   have hn := NodesAt.of_owns hown
   have HT : Hid (∀ t8 t9, wpB Tryz.prog fx2 B { tmps := #[.bool false, sl, .nilIface, undef, undef, undef, undef, undef, t8, t9, sl, .nilIface, undef, undef, undef, undef, undef, undef, undef, undef, undef, undef, undef, undef, undef, undef, undef, undef, undef, undef, undef, undef, undef, undef, undef, undef, undef, undef, undef, undef, undef, undef, undef, undef, undef, undef, undef, undef, undef, undef], defers := [] } w1) := Lib.hid (fun t8 t9 => by
     rw [<- HB.out]
     exact wpB_lift hP fun T d => fixed_tail w w1 kin sl hn T d t8 t9)
   clear hn hown kin HB HP
   generalize hX : fx2 = X at HT ⊢
   clear hX
   show listB Tryz.prog _ _ _ _ w1
   generalize hN : Exit.then (wpB Tryz.prog X B) B = N
   refine listB_lift hP fun T d => ?_
   go_wp2
   subst hN
   exact HT.out _ _
end Go.Proofs.YtonmcakdofbjiaaGreatDoor

