/- GrammarBlanks: for every text the law returns true, and the text reads as it did: the row, and the card that ties its listed variables to the program's text. Conditions: the listed package-level variables of Go's library hold what the program's text lays. -/
import Derived.Test.YtjojihadnplllaaGreatDoorLwA
import Derived.Test.YtjojihadnplllaaGreatDoorLwB
import Derived.Test.YtjojihadnplllaaGreatDoorPlD
namespace Go.Proofs.YtjojihadnplllaaGreatDoor
open Go Go.ChangeShapes Go.WideShapes Go.ChangeAt Go.RowKit
open Go.ChangeMaps (open_string shut_string)

/-- The law's call, at every text. -/
theorem blanks_any (s : ByteArray) (w : World) (hs : s.size ≤ 9223372036854775807) (hL : Laid w) :
    Calls Tryz.prog 3 #[.string s] w fun e w' => e = .returned (.bool true) ∧ Below w.heap.size w w' := by
  by_cases h : 500 < s.size
  · exact blanks_awake s w hs hL (Or.inl h)
  by_cases hq : 0 ≤ Lib.indexByte s.data.toList 34
  · exact blanks_awake s w hs hL (Or.inr ⟨by omega, hq⟩)
  have hnq := noQuote hq
  have hw := blanks_wide s (by omega) hnq
  have hu := blanks_upper s (by omega) hnq
  cases hr : readP commandP s with
  | ok c ts =>
    have ha := read_asc s (by omega) hnq hr
    have hf := read_few s
    rw [hr] at hw hu hf
    cases h2 : readP commandP (wideS s) with
    | err p e => rw [h2] at hw; exact hw.elim
    | ok c2 ts2 =>
      cases h3 : readP commandP (upperS s) with
      | err p e => rw [h3] at hu; exact hu.elim
      | ok c3 ts3 =>
        rw [h2] at hw
        rw [h3] at hu
        obtain ⟨rfl, _⟩ := hw
        obtain ⟨rfl, _⟩ := hu
        have hf' : c.sel.length ≤ 1001 := hf
        exact blanks_ok s w hL (by omega) hq (by rw [hr]; rfl) (by rw [h2]; rfl) (by rw [h3]; rfl) ha (by omega)
  | err p e =>
    rw [hr] at hw
    cases h2 : readP commandP (wideS s) with
    | ok c2 ts2 => rw [h2] at hw; exact hw.elim
    | err q e2 =>
      rw [h2] at hw
      obtain ⟨rfl, h0⟩ := hw
      exact blanks_err s w hL (by omega) hq (by rw [hr]; rfl) (by rw [h2]; rfl) h0

theorem own : ownKnob Tryz.prog.godebug = none := by kernel_rfl
theorem blanks_listed : Listed Tryz.prog Rows.grammarBlanksRow.laid := ⟨by simp [Rows.grammarBlanksRow], by simp [Rows.grammarBlanksRow], by simp [Rows.grammarBlanksRow]⟩

set_option maxRecDepth 100000 in
theorem blanks_lifted (os : Os) (started : os.Started) (H : Type) (enc : TypeId × Value → H) :
    ReturnsInHanded {} Tryz.checked os 3 .any (fun w args => (Rows.grammarBlanksSpec.pre enc Tryz.prog Tryz.f3 [] false w args ∧ laidMetH Tryz.prog Rows.grammarBlanksRow.laid w) ∧ sizedMet enc Tryz.prog Tryz.f3 (OpenSpec.ofChange Rows.grammarBlanksSpec) false w args)
      (Rows.grammarBlanksSpec.post enc Tryz.prog Tryz.f3 false true false false) := by
  refine returnsInHanded_both (C := Tryz.checked) (X := fun w _ => laidMetH Tryz.prog Rows.grammarBlanksRow.laid w) (fun _ _ _ hh h => h.of_heap hh) own started (by kernel_rfl) Tryz.func3
    (ChangeSpec.witness_shaped (enc := enc) (C := Tryz.checked) (os := os) (X := fun w _ => laidMetH Tryz.prog Rows.grammarBlanksRow.laid w) false (World.laidAll Tryz.prog os Rows.grammarBlanksRow.laid) #[.string ⟨#[]⟩] 8 (World.laidAll_os _ _ _)
      (World.shaped_of_ZipB (by kernel_rfl) (by kernel_rfl)) (by kernel_rfl) (by kernel_rfl) (by kernel_rfl)
      (by rw [MakeChecks.laidMetH_plain _ _ _ (by kernel_rfl)]; exact laidMet_laidAll _ (by kernel_rfl) (by kernel_rfl))) ?_
  intro W base args ds gs before hval0 hW _ _ hL hsh _
  have hval : ∀ (j : Nat) t v, Tryz.f3.params[j]? = some t → args[j]? = some v → Value.okWide Tryz.prog W .any base t v := hval0
  have hW' := hW
  obtain ⟨p, q, hA0, hV, rfl, _, _⟩ := hW
  have hA : DataW.TrodAll enc Tryz.prog W 0 (fun _ => true) true Tryz.f3.params.toList args.toList ds p := hA0
  rw [Tryz.params3] at hA hval
  obtain ⟨v0, d0, rfl, rfl, h0⟩ := trodAll_one hA
  obtain ⟨rfl, rfl⟩ := trodVars_none hV
  obtain ⟨s, rfl, rfl, rfl, ws⟩ := open_string Tryz.underlying9 (hval 0 9 v0 rfl rfl) h0
  have hL1 : laidMet Tryz.prog Rows.grammarBlanksRow.laid W := by
    rw [MakeChecks.laidMetH_plain _ _ _ (by kernel_rfl)] at hL; exact hL
  have hLaid := laid_of blanks_listed hL1 hsh
  simp only [List.append_nil] at hW'
  refine (blanks_any s W ws hLaid).mono fun e W' ⟨he, hb⟩ => ?_
  subst he
  exact ⟨_, rfl, _, _, _, [], _, [], hW', trodAll_mk1 (shut_bool Tryz.underlying4 _), trodAll_mk1 (shut_string Tryz.underlying9 ws), rfl, hb.frame _, fun h => by cases h⟩
end Go.Proofs.YtjojihadnplllaaGreatDoor
