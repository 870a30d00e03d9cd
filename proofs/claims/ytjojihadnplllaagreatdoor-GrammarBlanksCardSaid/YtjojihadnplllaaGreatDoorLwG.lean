/- GrammarBlanks: for every text the law returns true, and the text reads as it did: the row, and the card that ties its listed variables to the program's text. Conditions: the listed package-level variables of Go's library hold what the program's text lays. -/
import Derived.Test.YtjojihadnplllaaGreatDoorLwC
import Derived.Test.YtjojihadnplllaaGreatDoorLwH
namespace Go.Proofs.YtjojihadnplllaaGreatDoor
open Go

theorem grammarBlanks_holds : Rows.GrammarBlanksSaid :=
  OpenClaim.holds_of_wide 3 Tryz.f3 rfl rfl rfl rfl rfl rfl rfl ⟨rfl, rfl, rfl, rfl, rfl⟩ rfl rfl rfl rfl rfl grammarBlanks_named Tryz.func3 grammarBlanks_closed grammarBlanks_inst grammarBlanks_wrap
    (fun os started H enc _ => blanks_lifted os started H enc)
theorem grammarBlanks_card : Rows.GrammarBlanksCardSaid :=
  Claim7.holds_tied_plain_at .later [] [.data, .data, .data, .data, .sentinel, .sentinel, .listed, .data, .pinned, .pinned] true (true, "b7d43e059fce719adc176e36a5d8891544a99d8f2be6ec16719aa379412caa61") true grammarBlanks_holds (fun _ h => by cases h) grammarBlanks_wf (fun _ h => by cases h) grammarBlanks_row_tie rfl ⟨rfl, rfl⟩ grammarBlanks_main rfl
    (fun f fn hf hfn => by
      obtain rfl : f = 3 := Option.some.inj (grammarBlanks_named.symm.trans hf) |>.symm
      obtain rfl : fn = Tryz.f3 := (Option.some.inj (Tryz.func3.symm.trans hfn)).symm
      exact ⟨grammarBlanks_looks, fun j t ht => by
        rw [Tryz.params3] at ht
        have hm : t ∈ [9] := by simpa using Array.mem_of_getElem? ht
        exact (show Tryz.prog.wantsStandIn t = false by simpa using List.all_eq_true.1 grammarBlanks_stand t hm)⟩)
    grammarBlanks_goes
end Go.Proofs.YtjojihadnplllaaGreatDoor
