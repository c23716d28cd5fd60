/-
  Closed facts of the program that every row asks (the kernel runs each once).
-/
import Derived.Test.YtdpmjlkmjmookaaGreatDoorCards
import Derived.Test.YtdpmjlkmjmookaaGreatDoorTie
import Derived.Test.YtdpmjlkmjmookaaGreatDoorMem
import Derived.ProofKit
import Derived.Deep.DeepHandedRow
namespace Go.Proofs.YtdpmjlkmjmookaaGreatDoor
open Go Go.Proofs
set_option maxRecDepth 100000
theorem cl_laid : laidOutB Tryz.pinned.checked.prog = true := by kernel_rfl
theorem cl_maps : mapsRowed Tryz.pinned.checked.prog = true := by kernel_rfl
theorem cl_knobs : (Tryz.pinned.checked.prog.stopKnobs == []) = true := by kernel_rfl
theorem cl_heard : Tryz.pinned.checked.prog.stopsHeard = true := by kernel_rfl
theorem cl_enter : Tryz.pinned.checked.prog.mayEnter = true := by kernel_rfl
end Go.Proofs.YtdpmjlkmjmookaaGreatDoor
