/-
  DERIVED. GIVEN WITH THE SEED: THE CARDS: each row of YtjojihadnplllaaGreatDoorRows.lean that lists a variable, with what it lists TIED to the program's text (the seventh form; the later family's looks); each row that meets fmt, with fmt's text TOLD by the authors' own Lean function (tested against real Go, not proved from fmt's source: count such statements apart). THE CARD IS WHAT COUNTS. Prove the row's statement (the work); the ties are given (YtjojihadnplllaaGreatDoorTie.lean); close each card by the builder's one call (the guide's Derived/Test/ToyasCard.lean, 'card_holds'). Laid BY PROGRAM, IN A SANDBOX (cutbox-door.mjs). By AI agents, Wed Nov 11 2026. No macro, syntax, notation, axiom, sorry.
-/
import Derived.Test.YtjojihadnplllaaGreatDoorRows
import GoSem.ClaimSeven
namespace Go.Proofs.YtjojihadnplllaaGreatDoor
namespace Rows

/-- THE TIED CARD OF 'luminairelaw39.GrammarBlanks'. -/
def grammarBlanksCard : Claim7 := { stood := { row := grammarBlanksRow, standIns := [], harness := (true, "b7d43e059fce719adc176e36a5d8891544a99d8f2be6ec16719aa379412caa61"), looks := true }, kinds := [], alts := [], laidByText := true, laidKinds := [.data, .data, .data, .data, .sentinel, .sentinel, .listed, .data, .pinned, .pinned], laidTests := true, laidLooks := .later }
def GrammarBlanksCardSaid : Prop := Claim7.holds Tryz.pinned (.plain (OpenSpec.ofChange grammarBlanksSpec)) grammarBlanksCard

/-- THE TIED CARD OF 'luminairelaw40.PhraseChecks'. -/
def phraseChecksCard : Claim7 := { stood := { row := phraseChecksRow, standIns := [], harness := (true, "b7d43e059fce719adc176e36a5d8891544a99d8f2be6ec16719aa379412caa61"), looks := true }, kinds := [], alts := [], laidByText := true, laidKinds := [.data, .data, .data, .data, .sentinel, .sentinel, .listed, .data, .pinned], laidTests := true, laidLooks := .later }
def PhraseChecksCardSaid : Prop := Claim7.holds Tryz.pinned (.plain (OpenSpec.ofChange phraseChecksSpec)) phraseChecksCard

/-- THE TIED CARD OF 'luminairelaw40.PhraseFormats'. -/
def phraseFormatsCard : Claim7 := { stood := { row := phraseFormatsRow, standIns := [], harness := (true, "b7d43e059fce719adc176e36a5d8891544a99d8f2be6ec16719aa379412caa61"), looks := true }, kinds := [], alts := [], laidByText := true, laidKinds := [.data, .data, .data, .data, .sentinel, .sentinel, .listed, .data, .pinned], laidTests := true, laidLooks := .later }
def PhraseFormatsCardSaid : Prop := Claim7.holds Tryz.pinned (.plain (OpenSpec.ofChange phraseFormatsSpec)) phraseFormatsCard

/-- THE TIED CARD OF 'luminairelaw40.PhraseNormals'. -/
def phraseNormalsCard : Claim7 := { stood := { row := phraseNormalsRow, standIns := [], harness := (true, "b7d43e059fce719adc176e36a5d8891544a99d8f2be6ec16719aa379412caa61"), looks := true }, kinds := [], alts := [], laidByText := true, laidKinds := [.data, .data, .data, .data, .sentinel, .sentinel, .listed, .data, .pinned], laidTests := true, laidLooks := .later }
def PhraseNormalsCardSaid : Prop := Claim7.holds Tryz.pinned (.plain (OpenSpec.ofChange phraseNormalsSpec)) phraseNormalsCard

/-- THE TIED CARD OF 'luminairelaw40.PhraseTimes'. -/
def phraseTimesCard : Claim7 := { stood := { row := phraseTimesRow, standIns := [], harness := (true, "b7d43e059fce719adc176e36a5d8891544a99d8f2be6ec16719aa379412caa61"), looks := true }, kinds := [], alts := [], laidByText := true, laidKinds := [.data, .data, .data, .data, .sentinel, .sentinel, .listed, .data, .pinned], laidTests := true, laidLooks := .later }
def PhraseTimesCardSaid : Prop := Claim7.holds Tryz.pinned (.plain (OpenSpec.ofChange phraseTimesSpec)) phraseTimesCard

/-- THE TIED CARD OF 'luminairelaw40.PhraseSelects'. -/
def phraseSelectsCard : Claim7 := { stood := { row := phraseSelectsRow, standIns := [], harness := (true, "b7d43e059fce719adc176e36a5d8891544a99d8f2be6ec16719aa379412caa61"), looks := true }, kinds := [], alts := [], laidByText := true, laidKinds := [.data, .data, .data, .data, .sentinel, .sentinel, .listed, .data, .pinned], laidTests := true, laidLooks := .later }
def PhraseSelectsCardSaid : Prop := Claim7.holds Tryz.pinned (.plain (OpenSpec.ofChange phraseSelectsSpec)) phraseSelectsCard

/-- THE TIED CARD OF 'luminairelaw40.PhraseReads'. -/
def phraseReadsCard : Claim7 := { stood := { row := phraseReadsRow, standIns := [], harness := (true, "b7d43e059fce719adc176e36a5d8891544a99d8f2be6ec16719aa379412caa61"), looks := true }, kinds := [], alts := [], laidByText := true, laidKinds := [.data, .data, .data, .data, .sentinel, .sentinel, .listed, .data, .pinned], laidTests := true, laidLooks := .later }
def PhraseReadsCardSaid : Prop := Claim7.holds Tryz.pinned (.plain (OpenSpec.ofChange phraseReadsSpec)) phraseReadsCard

/-- THE TIED CARD OF 'luminairelaw40.PhraseParts'. -/
def phrasePartsCard : Claim7 := { stood := { row := phrasePartsRow, standIns := [], harness := (true, "b7d43e059fce719adc176e36a5d8891544a99d8f2be6ec16719aa379412caa61"), looks := true }, kinds := [], alts := [], laidByText := true, laidKinds := [.data, .data, .data, .data, .sentinel, .sentinel, .listed, .data, .pinned], laidTests := true, laidLooks := .later }
def PhrasePartsCardSaid : Prop := Claim7.holds Tryz.pinned (.plain (OpenSpec.ofChange phrasePartsSpec)) phrasePartsCard

/-- THE TIED CARD OF 'luminairelaw40.PhraseKeeps'. -/
def phraseKeepsCard : Claim7 := { stood := { row := phraseKeepsRow, standIns := [], harness := (true, "b7d43e059fce719adc176e36a5d8891544a99d8f2be6ec16719aa379412caa61"), looks := true }, kinds := [], alts := [], laidByText := true, laidKinds := [.data, .data, .data, .data, .sentinel, .sentinel, .listed, .data, .pinned], laidTests := true, laidLooks := .later }
def PhraseKeepsCardSaid : Prop := Claim7.holds Tryz.pinned (.plain (OpenSpec.ofChange phraseKeepsSpec)) phraseKeepsCard

/-- THE SECOND FORM's CARD OF 'luminairelaw39.GrammarBlanks'. -/
def grammarBlanksUptoCard : Claim7 := { stood := { row := grammarBlanksUptoRow, standIns := [], harness := (true, "b7d43e059fce719adc176e36a5d8891544a99d8f2be6ec16719aa379412caa61"), looks := true }, kinds := [], alts := [], laidByText := true, laidKinds := [.data, .data, .data, .data, .sentinel, .sentinel, .listed, .data, .pinned, .pinned], laidTests := true, laidLooks := .later }
def GrammarBlanksUptoCardSaid : Prop := Claim7.holds Tryz.pinned (.plain (OpenSpec.upto grammarBlanksSpec)) grammarBlanksUptoCard

/-- THE SECOND FORM's CARD OF 'luminairelaw40.PhraseChecks'. -/
def phraseChecksUptoCard : Claim7 := { stood := { row := phraseChecksUptoRow, standIns := [], harness := (true, "b7d43e059fce719adc176e36a5d8891544a99d8f2be6ec16719aa379412caa61"), looks := true }, kinds := [], alts := [], laidByText := true, laidKinds := [.data, .data, .data, .data, .sentinel, .sentinel, .listed, .data, .pinned], laidTests := true, laidLooks := .later }
def PhraseChecksUptoCardSaid : Prop := Claim7.holds Tryz.pinned (.plain (OpenSpec.upto phraseChecksSpec)) phraseChecksUptoCard

/-- THE SECOND FORM's CARD OF 'luminairelaw40.PhraseFormats'. -/
def phraseFormatsUptoCard : Claim7 := { stood := { row := phraseFormatsUptoRow, standIns := [], harness := (true, "b7d43e059fce719adc176e36a5d8891544a99d8f2be6ec16719aa379412caa61"), looks := true }, kinds := [], alts := [], laidByText := true, laidKinds := [.data, .data, .data, .data, .sentinel, .sentinel, .listed, .data, .pinned], laidTests := true, laidLooks := .later }
def PhraseFormatsUptoCardSaid : Prop := Claim7.holds Tryz.pinned (.plain (OpenSpec.upto phraseFormatsSpec)) phraseFormatsUptoCard

/-- THE SECOND FORM's CARD OF 'luminairelaw40.PhraseNormals'. -/
def phraseNormalsUptoCard : Claim7 := { stood := { row := phraseNormalsUptoRow, standIns := [], harness := (true, "b7d43e059fce719adc176e36a5d8891544a99d8f2be6ec16719aa379412caa61"), looks := true }, kinds := [], alts := [], laidByText := true, laidKinds := [.data, .data, .data, .data, .sentinel, .sentinel, .listed, .data, .pinned], laidTests := true, laidLooks := .later }
def PhraseNormalsUptoCardSaid : Prop := Claim7.holds Tryz.pinned (.plain (OpenSpec.upto phraseNormalsSpec)) phraseNormalsUptoCard

/-- THE SECOND FORM's CARD OF 'luminairelaw40.PhraseTimes'. -/
def phraseTimesUptoCard : Claim7 := { stood := { row := phraseTimesUptoRow, standIns := [], harness := (true, "b7d43e059fce719adc176e36a5d8891544a99d8f2be6ec16719aa379412caa61"), looks := true }, kinds := [], alts := [], laidByText := true, laidKinds := [.data, .data, .data, .data, .sentinel, .sentinel, .listed, .data, .pinned], laidTests := true, laidLooks := .later }
def PhraseTimesUptoCardSaid : Prop := Claim7.holds Tryz.pinned (.plain (OpenSpec.upto phraseTimesSpec)) phraseTimesUptoCard

/-- THE SECOND FORM's CARD OF 'luminairelaw40.PhraseSelects'. -/
def phraseSelectsUptoCard : Claim7 := { stood := { row := phraseSelectsUptoRow, standIns := [], harness := (true, "b7d43e059fce719adc176e36a5d8891544a99d8f2be6ec16719aa379412caa61"), looks := true }, kinds := [], alts := [], laidByText := true, laidKinds := [.data, .data, .data, .data, .sentinel, .sentinel, .listed, .data, .pinned], laidTests := true, laidLooks := .later }
def PhraseSelectsUptoCardSaid : Prop := Claim7.holds Tryz.pinned (.plain (OpenSpec.upto phraseSelectsSpec)) phraseSelectsUptoCard

/-- THE SECOND FORM's CARD OF 'luminairelaw40.PhraseReads'. -/
def phraseReadsUptoCard : Claim7 := { stood := { row := phraseReadsUptoRow, standIns := [], harness := (true, "b7d43e059fce719adc176e36a5d8891544a99d8f2be6ec16719aa379412caa61"), looks := true }, kinds := [], alts := [], laidByText := true, laidKinds := [.data, .data, .data, .data, .sentinel, .sentinel, .listed, .data, .pinned], laidTests := true, laidLooks := .later }
def PhraseReadsUptoCardSaid : Prop := Claim7.holds Tryz.pinned (.plain (OpenSpec.upto phraseReadsSpec)) phraseReadsUptoCard

/-- THE SECOND FORM's CARD OF 'luminairelaw40.PhraseParts'. -/
def phrasePartsUptoCard : Claim7 := { stood := { row := phrasePartsUptoRow, standIns := [], harness := (true, "b7d43e059fce719adc176e36a5d8891544a99d8f2be6ec16719aa379412caa61"), looks := true }, kinds := [], alts := [], laidByText := true, laidKinds := [.data, .data, .data, .data, .sentinel, .sentinel, .listed, .data, .pinned], laidTests := true, laidLooks := .later }
def PhrasePartsUptoCardSaid : Prop := Claim7.holds Tryz.pinned (.plain (OpenSpec.upto phrasePartsSpec)) phrasePartsUptoCard

/-- THE SECOND FORM's CARD OF 'luminairelaw40.PhraseKeeps'. -/
def phraseKeepsUptoCard : Claim7 := { stood := { row := phraseKeepsUptoRow, standIns := [], harness := (true, "b7d43e059fce719adc176e36a5d8891544a99d8f2be6ec16719aa379412caa61"), looks := true }, kinds := [], alts := [], laidByText := true, laidKinds := [.data, .data, .data, .data, .sentinel, .sentinel, .listed, .data, .pinned], laidTests := true, laidLooks := .later }
def PhraseKeepsUptoCardSaid : Prop := Claim7.holds Tryz.pinned (.plain (OpenSpec.upto phraseKeepsSpec)) phraseKeepsUptoCard
end Rows
end Go.Proofs.YtjojihadnplllaaGreatDoor
