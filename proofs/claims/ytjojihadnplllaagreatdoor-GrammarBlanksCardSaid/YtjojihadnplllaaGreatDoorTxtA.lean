/- Texts of digits: grammar's digits and value (strings.Trim, strconv.Atoi). -/
import Derived.Test.YtjojihadnplllaaGreatDoorRdA
import Derived.Test.YtjojihadnplllaaGreatDoorShelf
import Derived.Shelf.Strings.SlTrimAscii
namespace Go.Proofs.YtjojihadnplllaaGreatDoor
open Go.RowKit Go Go.Shelf

def isDig (c : UInt8) : Bool := 48 ≤ c && c ≤ 57
def digL : List UInt8 → Bool
  | [] => false
  | [c] => isDig c
  | c :: r => (c :: r).all isDig && c != 48

theorem dig_contains (c : UInt8) : [48, 49, 50, 51, 52, 53, 54, 55, 56, 57].contains c = isDig c := by
  have : ∀ n : Fin 256, [48, 49, 50, 51, 52, 53, 54, 55, 56, 57].contains (UInt8.ofFin n) = isDig (UInt8.ofFin n) := by decide +kernel
  exact this c.toFin
theorem dropWhile_nil {α : Type} (p : α → Bool) : ∀ l : List α, (l.dropWhile p).isEmpty = l.all p
  | [] => rfl
  | a :: l => by
    cases h : p a <;> simp [h, ← dropWhile_nil p l]
theorem dropWhile_all {α : Type} (p : α → Bool) : ∀ l : List α, (l.dropWhile p).all p = l.all p
  | [] => rfl
  | a :: l => by
    cases h : p a <;> simp [h, dropWhile_all p l]
theorem trim_dig (l : List UInt8) : (Lib.trimS l [48, 49, 50, 51, 52, 53, 54, 55, 56, 57]).isEmpty = l.all isDig := by
  unfold Lib.trimS Lib.trimLeftS Lib.trimRightS
  rw [dropWhile_nil, List.all_reverse, dropWhile_all, List.all_reverse]
  congr 1; funext c; exact dig_contains c

theorem trim_digits (s : ByteArray) (w : World) (hs : s.size ≤ 4096) :
    Calls Tryz.prog 68 #[.string s, .string ⟨#[48, 49, 50, 51, 52, 53, 54, 55, 56, 57]⟩] w fun e w' =>
      e = .returned (.string ⟨(Lib.trimS s.data.toList [48, 49, 50, 51, 52, 53, 54, 55, 56, 57]).toArray⟩) ∧ Below w.heap.size w w' :=
  Any.strings_Trim_laid Tryz.lays160 (by kernel_rfl) s ⟨#[48, 49, 50, 51, 52, 53, 54, 55, 56, 57]⟩ w (by omega) (by decide) (ascii_of_all (by decide))

theorem digL_long {l : List UInt8} (h : l.length ≠ 1) : digL l = (!l.isEmpty && l.all isDig && l.headD 0 != 48) := by
  match l, h with
  | [], _ => rfl
  | [c], h => simp at h
  | c :: d :: r, _ => rfl
theorem bytes_get (s : ByteArray) (h : 0 < s.size) : s[0] = s.data.toList.headD 0 := by
  rcases s with ⟨⟨l⟩⟩
  cases l with
  | nil => exact absurd h (by decide)
  | cons a l => rfl

set_option maxHeartbeats 400000 in
theorem digits_any (s : ByteArray) (w : World) (hs : s.size ≤ 4096) :
    Calls Tryz.prog 67 #[.string s] w fun e w' => e = .returned (.bool (digL s.data.toList)) ∧ Below w.heap.size w w' := by
  have hsz : s.size = s.data.toList.length := rfl
  have HSZ := Lib.hid hsz; clear hsz
  by_cases h0 : s.toList.isEmpty = true
  · have hz : digL s.data.toList = false := by
      rw [ByteArray.toList_eq] at h0
      simp only [List.isEmpty_iff] at h0; rw [h0]; rfl
    rw [hz]; clear hz
    go_enter Tryz.func67, Tryz.ntmps67
    go_wp2_with fail
    go_ret
    exact ⟨rfl, Below.refl _ _⟩
  · have h0' : s.toList.isEmpty = false := by simpa using h0
    clear h0
    by_cases hr0 : s.data.toList.all isDig = true
    · by_cases h1 : s.size = 1
      · have hz : digL s.data.toList = true := by
          rw [HSZ.out] at h1
          match hl : s.data.toList with
          | [] => rw [hl] at h1; simp at h1
          | [c] => rw [hl] at hr0; simpa [digL] using hr0
          | _ :: _ :: _ => rw [hl] at h1; simp at h1
        rw [hz]; clear hz
        have hi : (((s.size : Nat) : Int) == 1) = true := by rw [h1]; rfl
        clear h1
        go_enter Tryz.func67, Tryz.ntmps67
        go_wp2_with fail
        refine (trim_digits s _ hs).mono ?_
        rintro e w1 ⟨rfl, hb⟩
        have hr := (trim_dig s.data.toList).trans hr0
        clear hr0
        generalize Lib.trimS s.data.toList [48, 49, 50, 51, 52, 53, 54, 55, 56, 57] = r at hr
        go_wp2_with fail
        go_ret
        exact ⟨rfl, hb⟩
      · have hpos : 0 < s.size := by
          rcases Nat.eq_zero_or_pos s.size with h | h
          · rw [HSZ.out] at h; rw [ByteArray.toList_eq] at h0'
            have : s.data.toList = [] := List.length_eq_zero_iff.1 h
            rw [this] at h0'; simp at h0'
          · exact h
        have hz : digL s.data.toList = ((s[0].toNat : Int) != 48) := by
          rw [digL_long (by rw [← HSZ.out]; exact h1), bytes_get s hpos, hr0]
          rw [ByteArray.toList_eq] at h0'
          rw [h0']
          rw [Bool.eq_iff_iff]; simp [← UInt8.toNat_inj]; omega
        rw [hz]; clear hz
        have hi : (((s.size : Nat) : Int) == 1) = false := by simp; omega
        clear h1
        go_enter Tryz.func67, Tryz.ntmps67
        go_wp2_with fail
        refine (trim_digits s _ hs).mono ?_
        rintro e w1 ⟨rfl, hb⟩
        have hr := (trim_dig s.data.toList).trans hr0
        clear hr0
        generalize Lib.trimS s.data.toList [48, 49, 50, 51, 52, 53, 54, 55, 56, 57] = r at hr
        go_wp2_with fail
        go_ret
        exact ⟨rfl, hb⟩
    · have hz : digL s.data.toList = false := by
        match hl : s.data.toList with
        | [] => rfl
        | [c] => rw [hl] at hr0; simpa [digL] using hr0
        | a :: b :: r => rw [hl] at hr0; simp only [digL]; simp at hr0 ⊢; intro x y z; exact absurd z (by simpa using hr0 x y)
      rw [hz]; clear hz
      go_enter Tryz.func67, Tryz.ntmps67
      go_wp2_with fail
      refine (trim_digits s _ hs).mono ?_
      rintro e w1 ⟨rfl, hb⟩
      have hr := (trim_dig s.data.toList).trans (by simpa using hr0)
      clear hr0
      generalize Lib.trimS s.data.toList [48, 49, 50, 51, 52, 53, 54, 55, 56, 57] = r at hr
      go_wp2_with fail
      go_ret
      exact ⟨rfl, hb⟩

/-- The value of digits. -/
def natFrom (acc : Nat) : List UInt8 → Nat
  | [] => acc
  | c :: r => natFrom (acc * 10 + (c.toNat - 48)) r
def natL (l : List UInt8) : Nat := natFrom 0 l
/-- As grammar has it: at most 2^40. -/
def valL (l : List UInt8) : Int := min (natL l : Int) 1099511627776

theorem natFrom_ge (l : List UInt8) : ∀ acc, acc ≤ natFrom acc l := by
  induction l with
  | nil => intro acc; exact Nat.le_refl _
  | cons c r ih => intro acc; exact Nat.le_trans (by omega) (ih _)
theorem isDig_iff (c : UInt8) : isDig c = true ↔ 48 ≤ c.toNat ∧ c.toNat ≤ 57 := by
  unfold isDig; simp [UInt8.le_iff_toNat_le]
theorem parse_nil0 (acc : Nat) : Lib.parseUint10 acc [] = .ok acc := by simp only [Lib.parseUint10]
theorem parse_nil (acc : Nat) : Lib.parseUint10 acc [] = .ok (natFrom acc []) ∧ (natFrom acc [] < 18446744073709551616 ∨ ([] : List UInt8) = []) ∨ Lib.parseUint10 acc [] = .range ∧ 18446744073709551616 ≤ natFrom acc [] := Or.inl ⟨parse_nil0 acc, Or.inr rfl⟩
theorem parse_step (acc q : Nat) (r : List UInt8) (u : Nat) (hq : acc * 10 ≤ q) (hu : q ≤ u) (hz : r = [] → u = q)
   (ih : Lib.parseUint10 q r = .ok u ∧ (u < 18446744073709551616 ∨ r = []) ∨ Lib.parseUint10 q r = .range ∧ 18446744073709551616 ≤ u) :
   (if 1844674407370955162 ≤ acc then Lib.NumEnd.range else if 18446744073709551616 ≤ q then .range else Lib.parseUint10 q r) = .ok u ∧ u < 18446744073709551616 ∨
   (if 1844674407370955162 ≤ acc then Lib.NumEnd.range else if 18446744073709551616 ≤ q then .range else Lib.parseUint10 q r) = .range ∧ 18446744073709551616 ≤ u := by
  by_cases h1 : 1844674407370955162 ≤ acc
  · rw [if_pos h1]; exact Or.inr ⟨rfl, by omega⟩
  · rw [if_neg h1]
    by_cases h2 : 18446744073709551616 ≤ q
    · rw [if_pos h2]; exact Or.inr ⟨rfl, by omega⟩
    · rw [if_neg h2]
      rcases ih with ⟨h3, h4 | h4⟩ | h3
      · exact Or.inl ⟨h3, h4⟩
      · exact Or.inl ⟨h3, by have := hz h4; omega⟩
      · exact Or.inr h3
theorem parse_cons (acc : Nat) (c : UInt8) (r : List UInt8) (hc : 48 ≤ c.toNat ∧ c.toNat ≤ 57) : Lib.parseUint10 acc (c :: r) =
    if 1844674407370955162 ≤ acc then Lib.NumEnd.range else if 18446744073709551616 ≤ acc * 10 + (c.toNat - 48) then .range else Lib.parseUint10 (acc * 10 + (c.toNat - 48)) r := by
  rw [Lib.parseUint10, if_pos hc]
theorem parse_dig (l : List UInt8) : ∀ (acc : Nat), l.all isDig = true →
    Lib.parseUint10 acc l = .ok (natFrom acc l) ∧ (natFrom acc l < 18446744073709551616 ∨ l = []) ∨ Lib.parseUint10 acc l = .range ∧ 18446744073709551616 ≤ natFrom acc l := by
  induction l with
  | nil => intro acc _; exact parse_nil acc
  | cons c r ih =>
    intro acc h
    simp only [List.all_cons, Bool.and_eq_true] at h
    rw [parse_cons acc c r ((isDig_iff c).1 h.1)]
    have hg := natFrom_ge r (acc * 10 + (c.toNat - 48))
    have ih' := ih (acc * 10 + (c.toNat - 48)) h.2
    rcases parse_step acc (acc * 10 + (c.toNat - 48)) r (natFrom (acc * 10 + (c.toNat - 48)) r) (by omega) hg (fun hr => by rw [hr]; rfl) ih' with h3 | h3
    · exact Or.inl ⟨h3.1, Or.inl h3.2⟩
    · exact Or.inr h3
theorem atoi_dig (l : List UInt8) (hn : l ≠ []) (h : l.all isDig = true) :
    Lib.atoiAll l = .ok (natL l) ∧ natL l < 9223372036854775808 ∨ Lib.atoiAll l = .range ∧ 9223372036854775808 ≤ natL l := by
  match l, hn with
  | c :: r, _ =>
    have hc := (isDig_iff c).1 (by simp only [List.all_cons, Bool.and_eq_true] at h; exact h.1)
    have h43 : ¬ (c.toNat = 43 ∨ c.toNat = 45) := by omega
    have h45 : ¬ c.toNat = 45 := by omega
    have e : Lib.atoiAll (c :: r) = match Lib.parseUint10 0 (c :: r) with
      | .ok u => if 9223372036854775808 ≤ u then .range else .ok (u : Int)
      | .range => .range
      | _ => Lib.NumEnd.syntax := by
      simp only [Lib.atoiAll, Lib.parseMag, if_neg h43]
      rw [if_neg (by simp)]
      cases Lib.parseUint10 0 (c :: r) <;> first | rfl | simp only [h45, not_false_eq_true, true_and, false_and, if_false]
    rw [e]; clear e
    rcases parse_dig (c :: r) 0 h with ⟨h1, h2⟩ | ⟨h1, h2⟩
    · rw [h1]
      unfold natL
      generalize natFrom 0 (c :: r) = u at h2
      by_cases h3 : 9223372036854775808 ≤ u
      · simp only [if_pos h3]; right; exact ⟨trivial, h3⟩
      · simp only [if_neg h3]; left; exact ⟨trivial, by omega⟩
    · rw [h1]
      unfold natL
      generalize natFrom 0 (c :: r) = u at h2
      right; exact ⟨rfl, by omega⟩
theorem digL_all {l : List UInt8} (h : digL l = true) : l ≠ [] ∧ l.all isDig = true := by
  match l, h with
  | [c], h => exact ⟨by simp, by simpa [digL] using h⟩
  | c :: d :: r, h => simp only [digL, Bool.and_eq_true] at h; exact ⟨by simp, h.1⟩

theorem Below.of_bytes {B : Nat} (w : World) (n : Nat) (t : ByteArray) (h : B ≤ w.heap.size) : Below B w (Lib.bytesWorld w n t) := by
  unfold Lib.bytesWorld World.freeze
  split
  · exact ((Below.refl _ _).drew).alloc h _
  · refine (((Below.refl B w).drew).alloc h (Obj.cells (Lib.bytesCells w n t) n)).trans ⟨rfl, rfl, rfl, by simp, fun k hk => ?_⟩
    simp only [Array.getElem?_modify]
    rw [if_neg (by omega)]
set_option maxHeartbeats 400000 in
theorem value_any (s : ByteArray) (w : World) (hs : s.size ≤ 10000) (hL : Laid w) (hn : s.data.toList ≠ []) (hd : s.data.toList.all isDig = true) :
    Calls Tryz.prog 69 #[.string s] w fun e w' => e = .returned (.int .i64 (valL s.data.toList)) ∧ Below w.heap.size w w' := by
  obtain ⟨h1, h2⟩ | ⟨h1, h2⟩ := atoi_dig _ hn hd
  · have H1 := Lib.hid h1
    clear h1 hn hd
    generalize hv : natL s.data.toList = n at h2 H1
    have HV := Lib.hid hv; clear hv
    go_enter Tryz.func69, Tryz.ntmps69
    go_wp2_with fail
    refine (Tryz.strconv_Atoi_ok s (by omega) _ H1.out _).mono ?_
    rintro e w1 ⟨rfl, hw⟩
    have HB : Hid (Below w.heap.size w w1) := by
      rcases hw with rfl | ⟨t, rfl⟩
      · exact Below.refl _ _
      · exact Below.of_bytes _ _ _ (Nat.le_refl _)
    clear hw
    have HZ := Lib.hid (show valL s.data.toList = min (n : Int) 1099511627776 by unfold valL; rw [HV.out])
    go_wp2_with fail
    go_ret
    rw [HZ.out]
    exact ⟨rfl, HB.out⟩
  · obtain ⟨tp, p, hv⟩ := hL.errRange
    have HV := Lib.hid hv
    have H1 := Lib.hid h1
    have H2 := Lib.hid h2
    clear hv h1 h2 hn hd hL
    go_enter Tryz.func69, Tryz.ntmps69
    go_wp2_with fail
    refine (Tryz.strconv_Atoi_range_var s (by omega) H1.out tp p _ HV.out).mono ?_
    rintro e w1 ⟨N, rfl, hN, hc, hb⟩
    have hz : valL s.data.toList = 1099511627776 := by
      unfold valL; have := H2.out; omega
    have HZ := Lib.hid hz; clear hz
    go_wp2_with fail
    go_ret
    rw [HZ.out]
    exact ⟨rfl, hb⟩
end Go.Proofs.YtjojihadnplllaaGreatDoor
