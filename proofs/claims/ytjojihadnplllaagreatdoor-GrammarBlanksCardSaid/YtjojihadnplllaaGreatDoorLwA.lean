/- The law GrammarBlanks: what its call does, at every text. -/
import Derived.Test.YtjojihadnplllaaGreatDoorAwA
import Derived.Test.YtjojihadnplllaaGreatDoorShelf
namespace Go.Proofs.YtjojihadnplllaaGreatDoor
open Go.RowKit Go Go.Shelf Go.Proofs

theorem noQuote {l : List UInt8} (h : ¬ 0 ≤ Lib.indexByte l 34) : ∀ c ∈ l, c ≠ 34 := by
  intro c hc e
  obtain ⟨k, hk⟩ := List.getElem?_of_mem hc
  have h1 : Lib.indexByte l 34 = -1 := by have := Lib.indexByte_ge l 34; omega
  exact Lib.indexByte_none h1 k (by rw [hk, e])
theorem wideS_eq (s : ByteArray) : (⟨#[32]⟩ : ByteArray) ++ ⟨(Lib.replaceAll s.data.toList [32] [32, 32, 32]).toArray⟩ ++ ⟨#[32, 32]⟩ = wideS s := by
  rw [replaceAll_blank _ (by decide)]
  unfold wideS
  rw [wide_eq]
  apply ByteArray.ext
  simp

theorem wideS_size (s : ByteArray) : (wideS s).size = (wide s.data.toList).length + 1 := by
  show (wideS s).data.size = _
  simp [wideS]
/-- The text with each blank thrice. -/
def thrice (s : ByteArray) : ByteArray := ⟨(Lib.replaceAll s.data.toList [32] [32, 32, 32]).toArray⟩
theorem thrice_size (s : ByteArray) (h : s.size ≤ 500) : (thrice s).size ≤ 1500 := by
  have h1 := wide_len s.data.toList
  rw [wide_eq, List.length_append] at h1
  have hs : s.data.toList.length = s.size := rfl
  unfold thrice
  rw [replaceAll_blank _ (by decide)]
  show (List.toArray _).size ≤ 1500
  rw [List.size_toArray]
  simp only [List.length_cons, List.length_nil] at h1
  omega
theorem replace_any (s : ByteArray) (w : World) (h : s.size ≤ 500) (hL : Laid w) : Calls Tryz.prog 15 #[.string s, .string ⟨#[32]⟩, .string ⟨#[32, 32, 32]⟩] w fun e w' => e = .returned (.string (thrice s)) ∧ Below w.heap.size w w' := by
  obtain ⟨m, hm⟩ := hL.maxLen
  have hc : Lib.countB s ⟨#[32]⟩ ≤ s.size + 1 := Lib.count_le s.data.toList [32]
  exact Tryz.strings_ReplaceAll s ⟨#[32]⟩ ⟨#[32, 32, 32]⟩ m w (by omega) hm (by decide) (by
    show s.size + Lib.countB s ⟨#[32]⟩ * 3 ≤ _
    omega)

set_option maxRecDepth 100000 in
set_option maxHeartbeats 4000000 in
theorem blanks_awake (s : ByteArray) (w : World) (hs : s.size ≤ 9223372036854775807) (hL : Laid w) (h : 500 < s.size ∨ (s.size ≤ 500 ∧ 0 ≤ Lib.indexByte s.data.toList 34)) :
    Calls Tryz.prog 3 #[.string s] w fun e w' => e = .returned (.bool true) ∧ Below w.heap.size w w' := by
  have HL := Lib.hid hL
  clear hL
  rcases h with h | ⟨h, hq⟩
  · go_enter Tryz.func3, Tryz.ntmps3
    go_wp2_with fail
    refine (awake39_any _ HL.out).mono ?_
    rintro e w1 ⟨rfl, hb⟩
    go_wp2_with fail
    go_ret
    exact ⟨rfl, hb⟩
  · have hq' : decide (0 ≤ Lib.indexByte s.data.toList 34) = true := by simpa using hq
    have HQ := Lib.hid hq'
    clear hq hq'
    have h' : ¬ 500 < s.size := by omega
    go_enter Tryz.func3, Tryz.ntmps3
    go_wp2_with fail
    refine (Tryz.strings_Contains_one s 34 _).mono ?_
    rintro e w1 ⟨rfl, rfl⟩
    rw [HQ.out]
    go_wp2_with fail
    refine (awake39_any _ HL.out).mono ?_
    rintro e w1 ⟨rfl, hb⟩
    go_wp2_with fail
    go_ret
    exact ⟨rfl, hb⟩

set_option maxRecDepth 100000 in
set_option maxHeartbeats 4000000 in
theorem blanks_err (s : ByteArray) (w : World) (hL : Laid w) (h : s.size ≤ 500) (hq : ¬ 0 ≤ Lib.indexByte s.data.toList 34) {p q er : Int} (h1 : (readP commandP s).er? = some (p, er)) (h2 : (readP commandP (wideS s)).er? = some (q, er)) (h0 : er ≠ 0) :
    Calls Tryz.prog 3 #[.string s] w fun e w' => e = .returned (.bool true) ∧ Below w.heap.size w w' := by
  have HL := Lib.hid hL
  clear hL
  have hq' : decide (0 ≤ Lib.indexByte s.data.toList 34) = false := by simpa using hq
  have HQ := Lib.hid hq'
  have H1 := Lib.hid h1
  have H2 := Lib.hid h2
  have he : (er != 0) = true := by rw [bne_iff_ne]; exact h0
  clear hq hq' h1 h2 h0
  have h' : ¬ 500 < s.size := by omega
  go_enter Tryz.func3, Tryz.ntmps3
  go_wp2_with fail
  refine (Tryz.strings_Contains_one s 34 _).mono ?_
  rintro e w1 ⟨rfl, rfl⟩
  rw [HQ.out]
  go_wp2_with fail
  refine (parse_er H1.out (by omega) HL.out).mono ?_
  rintro e w2 ⟨rfl, hy2⟩
  have hx2 : Below w2.heap.size w2 (w2.alloc (.cells zeros.toArray 29)) := (Below.refl _ _).alloc (Nat.le_refl _) _
  have HB2 := Lib.hid (hy2.trans (hx2.mono hy2.size))
  have HL2 := Lib.hid (HL.out.below (HB2.out.mono HL.out.size))
  clear hy2 hx2
  go_wp2_with ((with_reducible refine at_st (ty := 29) ?_); refine wpl_fresh (ty := 29) (cs := ?_) ?_ ?_ ?_ ?_ ?_ ?_; rotate_left; exact rfl; exact rfl; exact rfl; exact size29; exact rfl)
  refine (replace_any s _ h HL2.out).mono ?_
  rintro e w3 ⟨rfl, hy3⟩
  have HB3 := Lib.hid (HB2.out.trans (hy3.mono HB2.out.size))
  have HL3 := Lib.hid (HL.out.below (HB3.out.mono HL.out.size))
  clear hy3 HB2 HL2
  have hz := thrice_size s h
  go_wp2_with fail
  rw [show (⟨#[32]⟩ : ByteArray) ++ thrice s ++ ⟨#[32, 32]⟩ = wideS s from wideS_eq s]
  refine (parse_er H2.out (by have := wide_len s.data.toList; have hs : s.data.toList.length = s.size := rfl; rw [wideS_size]; omega) HL3.out).mono ?_
  rintro e w4 ⟨rfl, hy4⟩
  have hx4 : Below w4.heap.size w4 (w4.alloc (.cells zeros.toArray 29)) := (Below.refl _ _).alloc (Nat.le_refl _) _
  have HB4 := Lib.hid (HB3.out.trans ((hy4.trans (hx4.mono hy4.size)).mono HB3.out.size))
  have HL4 := Lib.hid (HL.out.below (HB4.out.mono HL.out.size))
  clear hy4 hx4 HB3 HL3
  go_wp2_with ((with_reducible refine at_st (ty := 29) ?_); refine wpl_fresh (ty := 29) (cs := ?_) ?_ ?_ ?_ ?_ ?_ ?_; rotate_left; exact rfl; exact rfl; exact rfl; exact size29; exact rfl)
  refine (awake39_any _ HL4.out).mono ?_
  rintro e w5 ⟨rfl, hy5⟩
  go_wp2_with fail
  go_ret
  exact ⟨rfl, HB4.out.trans (hy5.mono HB4.out.size)⟩

set_option maxRecDepth 100000 in
set_option maxHeartbeats 4000000 in
theorem blanks_ok (s : ByteArray) (w : World) (hL : Laid w) (h : s.size ≤ 500) (hq : ¬ 0 ≤ Lib.indexByte s.data.toList 34) {c : Cmd} (h1 : (readP commandP s).val? = some c) (h2 : (readP commandP (wideS s)).val? = some c)
    (h3 : (readP commandP (upperS s)).val? = some c) (ha : ∀ b ∈ s.data.toList, b < 128) (hn : c.sel.length ≤ 100000) :
    Calls Tryz.prog 3 #[.string s] w fun e w' => e = .returned (.bool true) ∧ Below w.heap.size w w' := by
  have HL := Lib.hid hL
  clear hL
  have hq' : decide (0 ≤ Lib.indexByte s.data.toList 34) = false := by simpa using hq
  have HQ := Lib.hid hq'
  have H1 := Lib.hid h1
  have H2 := Lib.hid h2
  have H3 := Lib.hid h3
  have HA := Lib.hid ha
  clear hq hq' h1 h2 h3 ha
  have h' : ¬ 500 < s.size := by omega
  go_enter Tryz.func3, Tryz.ntmps3
  go_wp2_with fail
  refine (Tryz.strings_Contains_one s 34 _).mono ?_
  rintro e w1 ⟨rfl, rfl⟩
  rw [HQ.out]
  go_wp2_with fail
  refine (parse_val H1.out (by omega) HL.out).mono ?_
  rintro e w2 ⟨s1, rfl, ho1, hs1, hb2⟩
  have HO1 := Lib.hid (Own.allocNew w2 (cmdCells c s1) 29)
  have hx2 : Below w2.heap.size w2 (w2.alloc (.cells (cmdCells c s1).toArray 29)) := (Below.refl _ _).alloc (Nat.le_refl _) _
  have HS1 := Lib.hid (hs1.below hx2)
  have HB2 := Lib.hid (hb2.trans (hx2.mono hb2.size))
  have HL2 := Lib.hid (HL.out.below (HB2.out.mono HL.out.size))
  clear hs1 hb2 hx2
  go_wp2_with ((with_reducible refine at_st (ty := 29) ?_); refine wpl_fresh (ty := 29) (cs := ?_) ?_ ?_ ?_ ?_ ?_ ?_; rotate_left; exact rfl; exact rfl; exact rfl; exact size29; exact (cmd_one _ ho1))
  generalize w2.alloc (.cells (cmdCells c s1).toArray 29) = W2 at *
  generalize w2.heap.size = d1 at *
  refine (replace_any s _ h HL2.out).mono ?_
  rintro e w3 ⟨rfl, hy3⟩
  have HB3 := Lib.hid (HB2.out.trans (hy3.mono HB2.out.size))
  have HL3 := Lib.hid (HL.out.below (HB3.out.mono HL.out.size))
  have HS1a := Lib.hid (HS1.out.below hy3)
  have HO1a := Lib.hid (HO1.out.block hy3.size (hy3.block _ HO1.out.lt))
  clear hy3 HB2 HL2 HS1 HO1
  have hz := thrice_size s h
  go_wp2_with fail
  rw [show (⟨#[32]⟩ : ByteArray) ++ thrice s ++ ⟨#[32, 32]⟩ = wideS s from wideS_eq s]
  refine (parse_val H2.out (by have := wide_len s.data.toList; have hs : s.data.toList.length = s.size := rfl; rw [wideS_size]; omega) HL3.out).mono ?_
  rintro e w4 ⟨s2, rfl, ho2, hs2, hb4⟩
  have HO2 := Lib.hid (Own.allocNew w4 (cmdCells c s2) 29)
  have hx4 : Below w4.heap.size w4 (w4.alloc (.cells (cmdCells c s2).toArray 29)) := (Below.refl _ _).alloc (Nat.le_refl _) _
  have hy4 := hb4.trans (hx4.mono hb4.size)
  have HS2 := Lib.hid (hs2.below hx4)
  have HS1 := Lib.hid (HS1a.out.below hy4)
  have HO1 := Lib.hid (HO1a.out.block hy4.size (hy4.block _ HO1a.out.lt))
  have HB4 := Lib.hid (HB3.out.trans (hy4.mono HB3.out.size))
  have HL4 := Lib.hid (HL.out.below (HB4.out.mono HL.out.size))
  clear hs2 hb4 hx4 hy4 HS1a HO1a HB3 HL3
  go_wp2_with ((with_reducible refine at_st (ty := 29) ?_); refine wpl_fresh (ty := 29) (cs := ?_) ?_ ?_ ?_ ?_ ?_ ?_; rotate_left; exact rfl; exact rfl; exact rfl; exact size29; exact (cmd_one _ ho2))
  generalize w4.alloc (.cells (cmdCells c s2).toArray 29) = W4 at *
  generalize w4.heap.size = d2 at *
  refine (Tryz.strings_ToUpper_ascii s _ (by omega) (fun j b hb => (UInt8.lt_iff_toNat_lt.1 (HA.out b (List.mem_of_getElem? hb))))).mono ?_
  rintro e w5 ⟨rfl, hy5⟩
  have HB5 := Lib.hid (HB4.out.trans (hy5.mono HB4.out.size))
  have HL5 := Lib.hid (HL.out.below (HB5.out.mono HL.out.size))
  have HS1a := Lib.hid (HS1.out.below hy5)
  have HO1a := Lib.hid (HO1.out.block hy5.size (hy5.block _ HO1.out.lt))
  have HS2a := Lib.hid (HS2.out.below hy5)
  have HO2a := Lib.hid (HO2.out.block hy5.size (hy5.block _ HO2.out.lt))
  clear hy5 HB4 HL4 HS1 HO1 HS2 HO2
  go_wp2_with fail
  have hsu : (upperS s).size ≤ 500 := by
    show (upperS s).data.size ≤ 500
    have hs : s.data.toList.length = s.size := rfl
    simp [upperS, Lib.toUpperA]
    omega
  refine (parse_val (s := upperS s) H3.out (by omega) HL5.out).mono ?_
  rintro e w6 ⟨s3, rfl, ho3, hs3, hb6⟩
  have HO3 := Lib.hid (Own.allocNew w6 (cmdCells c s3) 29)
  have hx6 : Below w6.heap.size w6 (w6.alloc (.cells (cmdCells c s3).toArray 29)) := (Below.refl _ _).alloc (Nat.le_refl _) _
  have hy6 := hb6.trans (hx6.mono hb6.size)
  have HS3 := Lib.hid (hs3.below hx6)
  have HS1 := Lib.hid (HS1a.out.below hy6)
  have HO1 := Lib.hid (HO1a.out.block hy6.size (hy6.block _ HO1a.out.lt))
  have HS2 := Lib.hid (HS2a.out.below hy6)
  have HO2 := Lib.hid (HO2a.out.block hy6.size (hy6.block _ HO2a.out.lt))
  have HB6 := Lib.hid (HB5.out.trans (hy6.mono HB5.out.size))
  clear hs3 hb6 hx6 hy6 HS1a HO1a HS2a HO2a HB5 HL5 hsu
  go_wp2_with (first | ((with_reducible refine at_st (ty := 29) ?_); refine wpl_fresh (ty := 29) (cs := ?_) ?_ ?_ ?_ ?_ ?_ ?_; rotate_left; exact rfl; exact rfl; exact rfl; exact size29; exact (cmd_one _ ho3)) | ((with_reducible refine at_ldG (ty := 29) ?_); refine wpl_loadG (ty := 29) HO1.out ?_ ?_ Tryz.underlying29 ?_ ?_ ?_; exact rfl; exact rfl; exact rfl; exact size29) | ((with_reducible refine at_ldG (ty := 29) ?_); refine wpl_loadG (ty := 29) HO2.out ?_ ?_ Tryz.underlying29 ?_ ?_ ?_; exact rfl; exact rfl; exact rfl; exact size29))
  refine (same_true c HS1.out HS2.out hn).mono ?_
  rintro e w7 ⟨rfl, hy7⟩
  have HS1a := Lib.hid (HS1.out.below hy7)
  have HO1a := Lib.hid (HO1.out.block hy7.size (hy7.block _ HO1.out.lt))
  have HS3a := Lib.hid (HS3.out.below hy7)
  have HO3a := Lib.hid (HO3.out.block hy7.size (hy7.block _ HO3.out.lt))
  have HB7 := Lib.hid (HB6.out.trans (hy7.mono HB6.out.size))
  clear hy7 HS1 HO1 HS2 HO2 HS3 HO3 HB6
  go_wp2_with (first | ((with_reducible refine at_ldG (ty := 29) ?_); refine wpl_loadG (ty := 29) HO1a.out ?_ ?_ Tryz.underlying29 ?_ ?_ ?_; exact rfl; exact rfl; exact rfl; exact size29) | ((with_reducible refine at_ldG (ty := 29) ?_); refine wpl_loadG (ty := 29) HO3a.out ?_ ?_ Tryz.underlying29 ?_ ?_ ?_; exact rfl; exact rfl; exact rfl; exact size29))
  refine (same_true c HS1a.out HS3a.out hn).mono ?_
  rintro e w8 ⟨rfl, hy8⟩
  have HB8 := Lib.hid (HB7.out.trans (hy8.mono HB7.out.size))
  have HL8 := Lib.hid (HL.out.below (HB8.out.mono HL.out.size))
  clear hy8 HS1a HO1a HS3a HO3a HB7
  go_wp2_with fail
  refine (awake39_any _ HL8.out).mono ?_
  rintro e w9 ⟨rfl, hy9⟩
  go_wp2_with fail
  go_ret
  exact ⟨rfl, HB8.out.trans (hy9.mono HB8.out.size)⟩
end Go.Proofs.YtjojihadnplllaaGreatDoor
