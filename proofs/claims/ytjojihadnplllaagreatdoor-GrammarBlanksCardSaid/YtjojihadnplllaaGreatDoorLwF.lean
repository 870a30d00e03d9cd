/- The closed facts of the row GrammarBlanks, each a declaration of its own. -/
import Derived.Test.YtjojihadnplllaaGreatDoorRows
import Derived.JoinedOf
import Derived.ProofKit
namespace Go.Proofs.YtjojihadnplllaaGreatDoor
open Go
theorem grammarBlanks_k0 : (Rows.grammarBlanksRow.wf (OpenSpec.ofChange Rows.grammarBlanksSpec)) = true := by kernel_rfl
theorem grammarBlanks_k3 : (Tryz.f3.params.all (Tryz.pinned.checked.prog.readableRec ·)) = true := by kernel_rfl
theorem grammarBlanks_k4 : (namedTie Tryz.pinned.checked.prog Rows.grammarBlanksRow.named Rows.grammarBlanksSpec.vars) = true := by kernel_rfl
theorem grammarBlanks_k5 : ((Rows.grammarBlanksRow.stops == [])) = true := by kernel_rfl
theorem grammarBlanks_k7 : ((Rows.grammarBlanksRow.knobs == [])) = true := by kernel_rfl
theorem grammarBlanks_k9 : ((Rows.grammarBlanksRow.inPlace == Tryz.pinned.checked.prog.inPlace 3)) = true := by kernel_rfl
theorem grammarBlanks_k10 : ((Rows.grammarBlanksRow.unfollowed == Tryz.pinned.checked.prog.unfollowed 3)) = true := by kernel_rfl
theorem grammarBlanks_k11 : ((Rows.grammarBlanksRow.recurses == Tryz.pinned.checked.prog.recurses 3)) = true := by kernel_rfl
theorem grammarBlanks_k12 : ((Rows.grammarBlanksRow.named == Tryz.pinned.checked.prog.varsNamed 3)) = true := by kernel_rfl
theorem grammarBlanks_k13 : ((Rows.grammarBlanksRow.maps == (Tryz.f3.params.toList ++ Rows.grammarBlanksSpec.plain.varTypes Tryz.pinned.checked.prog).any (Tryz.pinned.checked.prog.mapsRec ·))) = true := by kernel_rfl
theorem grammarBlanks_k14 : ((Rows.grammarBlanksRow.ifaces == (Tryz.f3.params.toList ++ Rows.grammarBlanksSpec.plain.varTypes Tryz.pinned.checked.prog).any (Tryz.pinned.checked.prog.ifacesRec ·))) = true := by kernel_rfl
theorem grammarBlanks_k15 : ((Rows.grammarBlanksRow.mapsOut == Tryz.pinned.checked.prog.mapsAmong Tryz.f3.resultTypes.toList)) = true := by kernel_rfl
theorem grammarBlanks_k16 : ((Rows.grammarBlanksRow.loops == (Tryz.f3.params.toList ++ Rows.grammarBlanksSpec.plain.varTypes Tryz.pinned.checked.prog).any (Tryz.pinned.checked.prog.loopsFrom ·))) = true := by kernel_rfl
theorem grammarBlanks_k17 : ((Rows.grammarBlanksRow.wideKeys == (Tryz.f3.params.toList ++ Rows.grammarBlanksSpec.plain.varTypes Tryz.pinned.checked.prog ++ Tryz.f3.resultTypes.toList).any (Tryz.pinned.checked.prog.wideKeysFrom ·))) = true := by kernel_rfl
theorem grammarBlanks_k18 : (Rows.grammarBlanksSpec.vars.all (Tryz.pinned.checked.prog.varReadable ·)) = true := by kernel_rfl
theorem grammarBlanks_k19 : (Tryz.f3.resultTypes.all (fun t => Tryz.pinned.checked.prog.readableRec t && decide (t < Tryz.pinned.checked.prog.types.size))) = true := by kernel_rfl
theorem grammarBlanks_k20 : ((Rows.grammarBlanksRow.ifacesOut == Tryz.f3.resultTypes.toList.any (Tryz.pinned.checked.prog.ifacesRec ·))) = true := by kernel_rfl
theorem grammarBlanks_k21 : ((Rows.grammarBlanksRow.loopsOut == Tryz.f3.resultTypes.toList.any (Tryz.pinned.checked.prog.loopsFrom ·))) = true := by kernel_rfl
theorem grammarBlanks_k23 : (Rows.grammarBlanksRow.shortTexts.isNone) = true := by kernel_rfl
theorem grammarBlanks_k28 : ((Rows.grammarBlanksRow.kinds == (if Rows.grammarBlanksRow.domain.isEmpty then [] else Tryz.f3.params.toList.map fun t => match Tryz.pinned.checked.prog.underlying t with | some (.int k) => some k | _ => none))) = true := by kernel_rfl
theorem grammarBlanks_k29 : ((Rows.grammarBlanksRow.pinned == Rows.grammarBlanksRow.pinnedBy)) = true := by kernel_rfl
theorem grammarBlanks_k30 : ((Rows.grammarBlanksRow.veiled == (Tryz.f3.params.toList ++ Rows.grammarBlanksSpec.plain.varTypes Tryz.pinned.checked.prog ++ Tryz.f3.resultTypes.toList).any (Tryz.pinned.checked.prog.veiledRec ·))) = true := by kernel_rfl
theorem grammarBlanks_k31 : (Rows.grammarBlanksRow.veiledFits Tryz.pinned.checked.prog Tryz.f3.params.toList (Tryz.f3.params.toList ++ Rows.grammarBlanksSpec.plain.varTypes Tryz.pinned.checked.prog ++ Tryz.f3.resultTypes.toList)) = true := by kernel_rfl
end Go.Proofs.YtjojihadnplllaaGreatDoor
