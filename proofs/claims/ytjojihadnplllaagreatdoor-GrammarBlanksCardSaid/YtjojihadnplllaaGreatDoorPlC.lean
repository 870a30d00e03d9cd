/- The plain law of GrammarBlanks: additional blanks and capital letters change no command. -/
import Derived.Test.YtjojihadnplllaaGreatDoorPlB
import Derived.Lib.Replace
import Derived.Lib.ReplaceLaws
import Derived.Lib.Case
namespace Go.Proofs.YtjojihadnplllaaGreatDoor

theorem replace_blank (new : List UInt8) : ∀ l : List UInt8, Lib.replaceK [32] new (Lib.count l [32]) l = l.flatMap fun c => if c = 32 then new else [c]
  | [] => by rfl
  | b :: l => by
    have ih := replace_blank new l
    by_cases hb : b = 32
    · subst hb
      rw [Lib.count_cons_eq, Nat.add_comm 1, Lib.replaceK_hit [32] new _ _ 0 rfl]
      simp [ih]
    · rw [Lib.count_cons_ne b 32 l hb]
      cases hk : Lib.count l [32] with
      | zero =>
        rw [hk] at ih
        show b :: l = _
        simp only [List.flatMap_cons, if_neg hb, ← ih]
        rfl
      | succ k =>
        obtain ⟨i, hi⟩ := Lib.index_of_count (s := l) (old := [32]) (by omega)
        have h1 : Lib.index (b :: l) [32] = ((i + 1 : Nat) : Int) := by
          have hp : ([32] : List UInt8).isPrefixOf (b :: l) = false := by
            simp [List.isPrefixOf]; exact fun e => hb e.symm
          have hm : (Lib.index l [32] == -1) = false := by rw [hi]; exact beq_eq_false_iff_ne.2 (by omega)
          show (if ([32] : List UInt8).isPrefixOf (b :: l) then 0 else if Lib.index l [32] == -1 then -1 else Lib.index l [32] + 1) = _
          rw [hp, hm, hi]; simp
        rw [Lib.replaceK_hit [32] new k (b :: l) (i + 1) h1]
        rw [hk, Lib.replaceK_hit [32] new k l i hi] at ih
        simp only [List.flatMap_cons, if_neg hb, ← ih]
        simp
theorem replaceAll_blank (new : List UInt8) (hn : new ≠ [32]) (l : List UInt8) : Lib.replaceAll l [32] new = l.flatMap fun c => if c = 32 then new else [c] := by
  unfold Lib.replaceAll Lib.replace Lib.replaceNum
  rw [if_neg (by simpa using fun e => hn e.symm), if_pos (Or.inl (by decide))]
  exact replace_blank new l
theorem wide_eq : ∀ l : List UInt8, wide l = (l.flatMap fun c => if c = 32 then [32, 32, 32] else [c]) ++ [32, 32]
  | [] => rfl
  | c :: l => by
    show (if c = 32 then [32, 32, 32] else [c]) ++ wide l = _
    rw [wide_eq l]; simp
theorem wide_len : ∀ l : List UInt8, (wide l).length ≤ 3 * l.length + 2
  | [] => by decide
  | c :: l => by
    have := wide_len l
    show ((if c = 32 then [32, 32, 32] else [c]) ++ wide l).length ≤ _
    split <;> simp <;> omega
theorem upper_eq (l : List UInt8) : Lib.toUpperA l = l.map upB := by
  unfold Lib.toUpperA
  refine List.map_congr_left fun c _ => ?_
  have := all_u8 (p := fun c => Lib.upperB c == upB c) (by decide +kernel) c
  simpa using this

/-- The text with a blank ahead, each blank thrice, and two blanks behind. -/
def wideS (s : ByteArray) : ByteArray := ⟨(32 :: wide s.data.toList).toArray⟩
def upperS (s : ByteArray) : ByteArray := ⟨(Lib.toUpperA s.data.toList).toArray⟩

theorem blanks_wide (s : ByteArray) (h : s.size ≤ 500) (hq : ∀ c ∈ s.data.toList, c ≠ 34) : RSim (readP commandP s) (readP commandP (wideS s)) := by
  refine read_sim (fun _ _ h => command_sim h) (SSim.of_er ?_)
  have hl : (wideS s).size ≤ 4096 := by
    have := wide_len s.data.toList
    have hs : s.data.toList.length = s.size := rfl
    show (wideS s).data.size ≤ 4096
    simp [wideS]; omega
  rw [scan_er s (by omega), scan_er _ hl]
  show _ = scanE 257 (32 :: wide s.data.toList) []
  rw [scanE_blank, scanE_wide _ _ _ hq]
theorem blanks_upper (s : ByteArray) (h : s.size ≤ 500) (hq : ∀ c ∈ s.data.toList, c ≠ 34) : RSim (readP commandP s) (readP commandP (upperS s)) := by
  refine read_sim (fun _ _ h => command_sim h) (SSim.of_er ?_)
  have hl : (upperS s).size ≤ 4096 := by
    have hs : s.data.toList.length = s.size := rfl
    show (upperS s).data.size ≤ 4096
    simp [upperS, Lib.toUpperA]; omega
  rw [scan_er s (by omega), scan_er _ hl]
  show _ = scanE 257 (Lib.toUpperA s.data.toList) []
  rw [upper_eq, scanE_up _ _ _ hq]
theorem read_asc (s : ByteArray) (h : s.size ≤ 500) (hq : ∀ c ∈ s.data.toList, c ≠ 34) {c : Cmd} {ts : List Tok} (hr : readP commandP s = .ok c ts) : ∀ b ∈ s.data.toList, b < 128 := by
  unfold readP at hr
  cases hs : scan s with
  | err p e => rw [hs] at hr; cases hr
  | ok us =>
    have := scan_er s (by omega)
    rw [hs] at this
    exact scanE_asc 257 s.data.toList [] _ hq this.symm
end Go.Proofs.YtjojihadnplllaaGreatDoor
