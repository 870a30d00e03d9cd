/- The closed facts of the card of GrammarBlanks, each a declaration of its own. -/
import Derived.Test.YtjojihadnplllaaGreatDoorLwE
import Derived.Test.YtjojihadnplllaaGreatDoorLwF
import Derived.Test.YtjojihadnplllaaGreatDoorCards
import Derived.Test.YtjojihadnplllaaGreatDoorTie
import Derived.SevenTiedAt
namespace Go.Proofs.YtjojihadnplllaaGreatDoor
open Go

theorem grammarBlanks_closed : joinedFacts Tryz.pinned.checked.prog 3 Tryz.f3 Rows.grammarBlanksSpec Rows.grammarBlanksRow = true := by
  unfold joinedFacts
  rw [grammarBlanks_k0, grammarBlanks_k1, grammarBlanks_k2, grammarBlanks_k3, grammarBlanks_k4, grammarBlanks_k5, grammarBlanks_k6, grammarBlanks_k7, grammarBlanks_k8, grammarBlanks_k9, grammarBlanks_k10, grammarBlanks_k11, grammarBlanks_k12, grammarBlanks_k13, grammarBlanks_k14, grammarBlanks_k15, grammarBlanks_k16, grammarBlanks_k17, grammarBlanks_k18, grammarBlanks_k19, grammarBlanks_k20, grammarBlanks_k21, grammarBlanks_k22, grammarBlanks_k23, grammarBlanks_k24, grammarBlanks_k25, grammarBlanks_k26, grammarBlanks_k27, grammarBlanks_k29, grammarBlanks_k30, grammarBlanks_k31]
  simp only [Bool.true_and, Bool.and_true]
  kernel_rfl
theorem grammarBlanks_named : Tryz.pinned.checked.prog.funcNamed Rows.grammarBlanksRow.func = some 3 := by kernel_rfl
theorem grammarBlanks_inst : Tryz.f3.isInstance Tryz.pinned.checked.prog Rows.grammarBlanksRow.origin Rows.grammarBlanksRow.targs := of_decide_eq_true (by kernel_rfl)
theorem grammarBlanks_wrap : Tryz.f3.isWrapper Tryz.pinned.checked.prog Rows.grammarBlanksRow.wrapper Rows.grammarBlanksRow.mainSum := by
  unfold Func.isWrapper; first | (rw [if_pos (by decide +kernel)]; kernel_rfl) | (rw [if_neg (by decide +kernel)]; exact ⟨rfl, rfl⟩)
theorem grammarBlanks_wf : Rows.grammarBlanksRow.wfByText (OpenSpec.ofChange Rows.grammarBlanksSpec) = true := by kernel_rfl
theorem grammarBlanks_main : Tryz.pinned.checked.prog.mainIs = some (true, "b7d43e059fce719adc176e36a5d8891544a99d8f2be6ec16719aa379412caa61".toList) := by kernel_rfl
theorem grammarBlanks_looks : true = Tryz.prog.looks [] := by kernel_rfl
theorem grammarBlanks_goes : false = Rows.grammarBlanksRow.goesBy Tryz.pinned.checked.prog := by kernel_rfl
theorem grammarBlanks_stand : ([9].all fun u => !Tryz.prog.wantsStandIn u) = true := by kernel_rfl
end Go.Proofs.YtjojihadnplllaaGreatDoor
