/-
  The parts: base Tok1
-/
import Derived.Test.YtonmcakdofbjiaaDoorV14
import Derived.Test.YtonmcakdofbjiaaDoorProg
import Derived.KernelRfl
set_option linter.unusedVariables false
set_option linter.unusedSimpArgs false
set_option linter.unusedSectionVars false
set_option linter.unnecessarySimpa false
set_option maxRecDepth 100000
set_option maxHeartbeats 8000000
namespace Go.Proofs.YtonmcakdofbjiaaDoor
open Go.Bsd
def prodF : List Nat := [43, 44, 84, 49, 50, 51, 52, 53, 54, 55, 56, 57, 58, 59, 85, 86, 87, 88, 62, 63, 89, 90, 91, 92, 93, 70, 71, 94, 95, 73, 74, 75, 76, 77, 78, 79, 80, 81, 82, 83]
def prodG : List Nat := [3, 4, 5, 1, 2]
theorem side43 : okFnB Tryd.prog prodF prodG true Tryd.f43 = true := by kernel_rfl
theorem side44 : okFnB Tryd.prog prodF prodG true Tryd.f44 = true := by kernel_rfl
theorem side84 : okFnB Tryd.prog prodF prodG true Tryd.f84 = true := by kernel_rfl
theorem side49 : okFnB Tryd.prog prodF prodG true Tryd.f49 = true := by kernel_rfl
theorem side50 : okFnB Tryd.prog prodF prodG true Tryd.f50 = true := by kernel_rfl
theorem side51 : okFnB Tryd.prog prodF prodG true Tryd.f51 = true := by kernel_rfl
theorem side52 : okFnB Tryd.prog prodF prodG true Tryd.f52 = true := by kernel_rfl
theorem side53 : okFnB Tryd.prog prodF prodG true Tryd.f53 = true := by kernel_rfl
theorem side54 : okFnB Tryd.prog prodF prodG true Tryd.f54 = true := by kernel_rfl
theorem side55 : okFnB Tryd.prog prodF prodG true Tryd.f55 = true := by kernel_rfl
theorem side56 : okFnB Tryd.prog prodF prodG true Tryd.f56 = true := by kernel_rfl
theorem side57 : okFnB Tryd.prog prodF prodG true Tryd.f57 = true := by kernel_rfl
theorem side58 : okFnB Tryd.prog prodF prodG true Tryd.f58 = true := by kernel_rfl
theorem side59 : okFnB Tryd.prog prodF prodG true Tryd.f59 = true := by kernel_rfl
theorem side85 : okFnB Tryd.prog prodF prodG true Tryd.f85 = true := by kernel_rfl
theorem side86 : okFnB Tryd.prog prodF prodG true Tryd.f86 = true := by kernel_rfl
theorem side87 : okFnB Tryd.prog prodF prodG true Tryd.f87 = true := by kernel_rfl
theorem side88 : okFnB Tryd.prog prodF prodG true Tryd.f88 = true := by kernel_rfl
theorem side62 : okFnB Tryd.prog prodF prodG true Tryd.f62 = true := by kernel_rfl
theorem side63 : okFnB Tryd.prog prodF prodG true Tryd.f63 = true := by kernel_rfl
theorem side89 : okFnB Tryd.prog prodF prodG true Tryd.f89 = true := by kernel_rfl
theorem side90 : okFnB Tryd.prog prodF prodG true Tryd.f90 = true := by kernel_rfl
theorem side91 : okFnB Tryd.prog prodF prodG true Tryd.f91 = true := by kernel_rfl
theorem side92 : okFnB Tryd.prog prodF prodG true Tryd.f92 = true := by kernel_rfl
theorem side93 : okFnB Tryd.prog prodF prodG true Tryd.f93 = true := by kernel_rfl
theorem side70 : okFnB Tryd.prog prodF prodG true Tryd.f70 = true := by kernel_rfl
theorem side71 : okFnB Tryd.prog prodF prodG true Tryd.f71 = true := by kernel_rfl
theorem side94 : okFnB Tryd.prog prodF prodG true Tryd.f94 = true := by kernel_rfl
theorem side95 : okFnB Tryd.prog prodF prodG true Tryd.f95 = true := by kernel_rfl
theorem side73 : okFnB Tryd.prog prodF prodG true Tryd.f73 = true := by kernel_rfl
theorem side74 : okFnB Tryd.prog prodF prodG true Tryd.f74 = true := by kernel_rfl
theorem side75 : okFnB Tryd.prog prodF prodG true Tryd.f75 = true := by kernel_rfl
theorem side76 : okFnB Tryd.prog prodF prodG true Tryd.f76 = true := by kernel_rfl
theorem side77 : okFnB Tryd.prog prodF prodG true Tryd.f77 = true := by kernel_rfl
theorem side78 : okFnB Tryd.prog prodF prodG true Tryd.f78 = true := by kernel_rfl
theorem side79 : okFnB Tryd.prog prodF prodG true Tryd.f79 = true := by kernel_rfl
theorem side80 : okFnB Tryd.prog prodF prodG true Tryd.f80 = true := by kernel_rfl
theorem side81 : okFnB Tryd.prog prodF prodG true Tryd.f81 = true := by kernel_rfl
theorem side82 : okFnB Tryd.prog prodF prodG true Tryd.f82 = true := by kernel_rfl
theorem side83 : okFnB Tryd.prog prodF prodG true Tryd.f83 = true := by kernel_rfl
end Go.Proofs.YtonmcakdofbjiaaDoor
