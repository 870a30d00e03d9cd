/- The closed facts of the program that every row asks, each a declaration of its own. -/
import Derived.Test.YtjojihadnplllaaGreatDoorRows
import Derived.JoinedOf
import Derived.ProofKit
namespace Go.Proofs.YtjojihadnplllaaGreatDoor
open Go
theorem grammarBlanks_k1 : (laidOutB Tryz.pinned.checked.prog) = true := by kernel_rfl
theorem grammarBlanks_k2 : (mapsRowed Tryz.pinned.checked.prog) = true := by kernel_rfl
theorem grammarBlanks_k6 : ((Tryz.pinned.checked.prog.stops == [])) = true := by kernel_rfl
theorem grammarBlanks_k8 : ((Tryz.pinned.checked.prog.stopKnobs == [])) = true := by kernel_rfl
theorem grammarBlanks_k22 : ((Rows.grammarBlanksRow.plainKeys == Tryz.pinned.checked.prog.plainKeys)) = true := by kernel_rfl
theorem grammarBlanks_k24 : (Tryz.pinned.checked.prog.stopsHeard) = true := by kernel_rfl
theorem grammarBlanks_k25 : (Tryz.pinned.checked.prog.mayEnter) = true := by kernel_rfl
theorem grammarBlanks_k26 : ((Rows.grammarBlanksRow.lifted == Tryz.pinned.checked.prog.liftsFinal)) = true := by kernel_rfl
theorem grammarBlanks_k27 : ((Tryz.pinned.checked.prog.make == some Rows.grammarBlanksRow.make)) = true := by kernel_rfl
end Go.Proofs.YtjojihadnplllaaGreatDoor
