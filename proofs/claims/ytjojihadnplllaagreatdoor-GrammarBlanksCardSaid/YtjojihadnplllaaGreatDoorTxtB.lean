/- Seconds of a text (grammar): a number of seconds with at most three decimals. -/
import Derived.Test.YtjojihadnplllaaGreatDoorTxtA
import Derived.Deep.RegionWith
import Derived.Lib.SmallJoins
namespace Go.Proofs.YtjojihadnplllaaGreatDoor
open Go.RowKit Go Go.Shelf

theorem below_drewN {B : Nat} (w : World) : ∀ n, Below B w (w.drewN n) := fun _ => ⟨rfl, rfl, rfl, Nat.le_refl _, fun _ _ => rfl⟩

/-- strings.Cut at a point. -/
theorem cut_any {s : ByteArray} {w : World} (hs : s.size ≤ 4096) (hL : Laid w) {a b : List UInt8} {p : Bool} (hc : Lib.cut s.data.toList [46] = (a, b, p)) :
    Calls Tryz.prog 66 #[.string s, .string ⟨#[46]⟩] w fun e w' => e = .returned (.tuple #[.string ⟨a.toArray⟩, .string ⟨b.toArray⟩, .bool p]) ∧ Below w.heap.size w w' := by
  obtain ⟨m, hm⟩ := hL.maxLen
  refine (Tryz.strings_Cut s ⟨#[46]⟩ m w (by omega) hm).mono fun e w' ⟨he, n, hw⟩ => ?_
  subst hw
  refine ⟨?_, below_drewN w n⟩
  rw [he]
  show Ending.returned (.tuple #[.string ⟨(Lib.cut s.data.toList [46]).1.toArray⟩, .string ⟨(Lib.cut s.data.toList [46]).2.1.toArray⟩, .bool (Lib.cut s.data.toList [46]).2.2]) = _
  rw [hc]

theorem cut_sizes {l a b : List UInt8} {p : Bool} (h : Lib.cut l [46] = (a, b, p)) : a.length ≤ l.length ∧ b.length ≤ l.length := by
  unfold Lib.cut at h
  split at h
  · simp only [Prod.mk.injEq] at h
    obtain ⟨rfl, rfl, _⟩ := h
    exact ⟨List.length_take_le' .., by simp⟩
  · simp only [Prod.mk.injEq] at h
    obtain ⟨rfl, rfl, _⟩ := h
    exact ⟨Nat.le_refl _, by simp⟩

/-- The decimals, filled up, behind a one. -/
def tailL (b : List UInt8) : List UInt8 := 49 :: (b ++ [48, 48, 48]).take 3
/-- Is what stands behind the point wrong? -/
def badRest (b : List UInt8) : Bool := b.isEmpty || decide (3 < b.length) || !b.all isDig
/-- Seconds: the milliseconds and 0, or 0 and the error. -/
def secL (l : List UInt8) : Int × Int :=
  match Lib.cut l [46] with
  | (a, b, p) =>
    if digL a = false ∨ p = true ∧ badRest b = true then (0, 3)
    else
      let n := 1000 * valL a + valL (tailL b) - 1000
      if 10000000 < n then (0, 2) else (n, 0)
theorem value_list (l : List UInt8) (w : World) (hs : l.length ≤ 10000) (hL : Laid w) (hn : l ≠ []) (hd : l.all isDig = true) :
    Calls Tryz.prog 69 #[.string ⟨l.toArray⟩] w fun e w' => e = .returned (.int .i64 (valL l)) ∧ Below w.heap.size w w' :=
  value_any ⟨l.toArray⟩ w hs hL hn hd
theorem valL_range (l : List UInt8) : 0 ≤ valL l ∧ valL l ≤ 1099511627776 := by unfold valL; omega
theorem tail_arg (b : List UInt8) : (({ data := #[49] } : ByteArray) ++ (({ data := b.toArray } : ByteArray) ++ { data := #[48, 48, 48] }).extract 0 3) = ⟨(tailL b).toArray⟩ := by
  apply ByteArray.ext
  apply Array.toList_inj.1
  rw [Joins.data_append, Lib.extract_data, Joins.data_append]
  rfl
theorem value_tail (b : List UInt8) (w : World) (hL : Laid w) (hd : b.all isDig = true) :
    Calls Tryz.prog 69 #[.string (({ data := #[49] } : ByteArray) ++ (({ data := b.toArray } : ByteArray) ++ { data := #[48, 48, 48] }).extract 0 3)] w fun e w' =>
      e = .returned (.int .i64 (valL (tailL b))) ∧ Below w.heap.size w w' := by
  rw [tail_arg]
  refine value_list _ w (by unfold tailL; simp) hL (by unfold tailL; simp) ?_
  unfold tailL
  simp only [List.all_cons, Bool.and_eq_true]
  refine ⟨by decide, ?_⟩
  rw [List.all_eq_true] at hd ⊢
  intro x hx
  have := List.mem_of_mem_take hx
  rcases List.mem_append.1 this with h | h
  · exact hd x h
  · simp at h; subst h; decide
set_option maxHeartbeats 4000000 in
theorem seconds_any (s : ByteArray) (w : World) (hs : s.size ≤ 4096) (hL : Laid w) :
    Calls Tryz.prog 27 #[.string s] w fun e w' => e = .returned (.tuple #[.int .i64 (secL s.data.toList).1, .int .i64 (secL s.data.toList).2]) ∧ Below w.heap.size w w' := by
  obtain ⟨⟨a, b, p⟩, hc⟩ : ∃ x, Lib.cut s.data.toList [46] = x := ⟨_, rfl⟩
  have hsz : s.data.toList.length = s.size := rfl
  have hab := cut_sizes hc
  rw [hsz] at hab
  have ha4 : a.length ≤ 4096 := by omega
  have hb4 : b.length ≤ 4096 := by omega
  clear hab hsz
  have hz : secL s.data.toList = if digL a = false ∨ p = true ∧ badRest b = true then (0, 3) else if 10000000 < 1000 * valL a + valL (tailL b) - 1000 then (0, 2) else (1000 * valL a + valL (tailL b) - 1000, 0) := by
    unfold secL; rw [hc]
  have HZ := Lib.hid hz; clear hz
  have HC := Lib.hid hc; clear hc
  have HL := Lib.hid hL; clear hL
  by_cases hd : digL a = true
  · have good : (p = true → badRest b = false) → b.length ≤ 3 → b.all isDig = true → Calls Tryz.prog 27 #[.string s] w fun e w' => e = .returned (.tuple #[.int .i64 (secL s.data.toList).1, .int .i64 (secL s.data.toList).2]) ∧ Below w.heap.size w w' := by
      intro hg hb3' hbd
      have HG := Lib.hid hg
      have HBD := Lib.hid hbd
      clear hg hbd
      have hnb : ¬ (digL a = false ∨ p = true ∧ badRest b = true) := by
        rw [hd]; simp; intro h; rw [HG.out h]
      have HN := Lib.hid hnb
      clear hnb
      cases p
      all_goals
        go_enter Tryz.func27, Tryz.ntmps27
        go_wp2_with fail
        refine (cut_any hs HL.out HC.out).mono ?_
        rintro e w1 ⟨rfl, hb1⟩
        have HB1 := Lib.hid hb1; clear hb1
        go_wp2_with fail
        refine (digits_any _ _ (by exact ha4)).mono ?_
        rintro e w2 ⟨rfl, hb2⟩
        rw [show (ByteArray.mk a.toArray).data.toList = a from rfl, hd]
        have HB2 := Lib.hid hb2; clear hb2
      · skip
        have hv1 := valL_range a
        have hv2 := valL_range (tailL b)
        have HL2 := Lib.hid (HL.out.below (HB1.out.mono HL.out.size) |>.below (HB2.out.mono (Nat.le_trans HL.out.size HB1.out.size)))
        have HW2 := Lib.hid (HB1.out.trans (HB2.out.mono HB1.out.size))
        clear HB1 HB2
        go_wp2_with fail
        go_region_with (first | (go_at_call_of 69 (Value.string { data := a.toArray }); refine (value_list _ _ (by omega) (HL2.out.below (Below.refl 12 _).drew) (digL_all hd).1 (digL_all hd).2).mono ?_; rintro e w3 ⟨rfl, hb3⟩) | (go_at_call 69; refine (value_tail _ _ (HL2.out.below ((Below.refl 12 _).drew.trans (hb3.mono (by simpa using HL2.out.size)))) HBD.out).mono ?_; rintro e w4 ⟨rfl, hb4⟩))
        all_goals
          have HW := Lib.hid (HW2.out.trans ((Below.refl _ _).drew.trans (hb3.trans (hb4.mono hb3.size)) |>.mono (HW2.out.size)))
          clear hb3 hb4 HW2
          by_cases hn : 10000000 < 1000 * valL a + valL (tailL b) - 1000
          · have HR := Lib.hid (HZ.out.trans ((if_neg HN.out).trans (if_pos hn)))
            go_wp2_with fail
            go_ret2
            rw [HR.out]
            exact ⟨rfl, HW.out⟩
          · have HR := Lib.hid (HZ.out.trans ((if_neg HN.out).trans (if_neg hn)))
            go_wp2_with fail
            go_ret2
            rw [HR.out]
            exact ⟨rfl, HW.out⟩
      · have hbr := HG.out trivial
        unfold badRest at hbr
        simp only [Bool.or_eq_false_iff, Bool.not_eq_false', decide_eq_false_iff_not] at hbr
        have hb0 : b.isEmpty = false := hbr.1.1
        clear hbr
        go_wp2_with fail
        refine (trim_digits _ _ (by exact hb4)).mono ?_
        rintro e w2a ⟨rfl, hb2a⟩
        rw [show (ByteArray.mk b.toArray).data.toList = b from rfl]
        have hr := (trim_dig b).trans HBD.out
        generalize Lib.trimS b [48, 49, 50, 51, 52, 53, 54, 55, 56, 57] = r at hr
        have HB3 := Lib.hid hb2a; clear hb2a
        have hv1 := valL_range a
        have hv2 := valL_range (tailL b)
        have HL2 := Lib.hid (HL.out.below ((HB1.out.trans ((HB2.out.trans (HB3.out.mono HB2.out.size)).mono HB1.out.size)).mono HL.out.size))
        have HW2 := Lib.hid (HB1.out.trans ((HB2.out.trans (HB3.out.mono HB2.out.size)).mono HB1.out.size))
        clear HB1 HB2 HB3
        go_wp2_with fail
        go_region_with (first | (go_at_call_of 69 (Value.string { data := a.toArray }); refine (value_list _ _ (by omega) (HL2.out.below (Below.refl 12 _).drew) (digL_all hd).1 (digL_all hd).2).mono ?_; rintro e w3 ⟨rfl, hb3⟩) | (go_at_call 69; refine (value_tail _ _ (HL2.out.below ((Below.refl 12 _).drew.trans (hb3.mono (by simpa using HL2.out.size)))) HBD.out).mono ?_; rintro e w4 ⟨rfl, hb4⟩))
        all_goals
          have HW := Lib.hid (HW2.out.trans ((Below.refl _ _).drew.trans (hb3.trans (hb4.mono hb3.size)) |>.mono (HW2.out.size)))
          clear hb3 hb4 HW2
          by_cases hn : 10000000 < 1000 * valL a + valL (tailL b) - 1000
          · have HR := Lib.hid (HZ.out.trans ((if_neg HN.out).trans (if_pos hn)))
            go_wp2_with fail
            go_ret2
            rw [HR.out]
            exact ⟨rfl, HW.out⟩
          · have HR := Lib.hid (HZ.out.trans ((if_neg HN.out).trans (if_neg hn)))
            go_wp2_with fail
            go_ret2
            rw [HR.out]
            exact ⟨rfl, HW.out⟩
    by_cases hp : p = true
    · subst hp
      by_cases hbad : badRest b = true
      · have HR := Lib.hid (HZ.out.trans (if_pos (Or.inr ⟨rfl, hbad⟩)))
        unfold badRest at hbad
        simp only [Bool.or_eq_true, Bool.not_eq_true', decide_eq_true_eq] at hbad
        by_cases hb0 : b.isEmpty = true
        · clear hbad
          go_enter Tryz.func27, Tryz.ntmps27
          go_wp2_with fail
          refine (cut_any hs HL.out HC.out).mono ?_
          rintro e w1 ⟨rfl, hb1⟩
          have HB1 := Lib.hid hb1; clear hb1
          go_wp2_with fail
          refine (digits_any _ _ (by exact ha4)).mono ?_
          rintro e w2 ⟨rfl, hb2⟩
          rw [show (ByteArray.mk a.toArray).data.toList = a from rfl, hd]
          have HB2 := Lib.hid hb2; clear hb2
          go_wp2_with fail
          go_ret2
          rw [HR.out]
          exact ⟨rfl, HB1.out.trans (HB2.out.mono HB1.out.size)⟩
        · have hb0' : b.isEmpty = false := by simpa using hb0
          clear hb0
          by_cases hb3 : 3 < b.length
          · clear hbad
            go_enter Tryz.func27, Tryz.ntmps27
            go_wp2_with fail
            refine (cut_any hs HL.out HC.out).mono ?_
            rintro e w1 ⟨rfl, hb1⟩
            have HB1 := Lib.hid hb1; clear hb1
            go_wp2_with fail
            refine (digits_any _ _ (by exact ha4)).mono ?_
            rintro e w2 ⟨rfl, hb2⟩
            rw [show (ByteArray.mk a.toArray).data.toList = a from rfl, hd]
            have HB2 := Lib.hid hb2; clear hb2
            go_wp2_with fail
            go_ret2
            rw [HR.out]
            exact ⟨rfl, HB1.out.trans (HB2.out.mono HB1.out.size)⟩
          · have hbd : b.all isDig = false := by
              rcases hbad with (h | h) | h
              · rw [hb0'] at h; exact absurd h (by decide)
              · exact absurd h hb3
              · exact h
            clear hbad
            have HBD := Lib.hid hbd; clear hbd
            go_enter Tryz.func27, Tryz.ntmps27
            go_wp2_with fail
            refine (cut_any hs HL.out HC.out).mono ?_
            rintro e w1 ⟨rfl, hb1⟩
            have HB1 := Lib.hid hb1; clear hb1
            go_wp2_with fail
            refine (digits_any _ _ (by exact ha4)).mono ?_
            rintro e w2 ⟨rfl, hb2⟩
            rw [show (ByteArray.mk a.toArray).data.toList = a from rfl, hd]
            have HB2 := Lib.hid hb2; clear hb2
            go_wp2_with fail
            refine (trim_digits _ _ (by exact hb4)).mono ?_
            rintro e w2a ⟨rfl, hb2a⟩
            rw [show (ByteArray.mk b.toArray).data.toList = b from rfl]
            have hr := (trim_dig b).trans HBD.out
            generalize Lib.trimS b [48, 49, 50, 51, 52, 53, 54, 55, 56, 57] = r at hr
            have HB3 := Lib.hid hb2a; clear hb2a
            go_wp2_with fail
            go_ret2
            rw [HR.out]
            exact ⟨rfl, HB1.out.trans ((HB2.out.trans (HB3.out.mono HB2.out.size)).mono HB1.out.size)⟩
      · have hb' : badRest b = false := by simpa using hbad
        have hbr := hb'
        unfold badRest at hbr
        simp only [Bool.or_eq_false_iff, Bool.not_eq_false', decide_eq_false_iff_not] at hbr
        exact good (fun _ => hb') (by omega) hbr.2
    · have hb : b = [] := by
        have h := HC.out
        unfold Lib.cut at h
        split at h
        · simp only [Prod.mk.injEq] at h; exact absurd h.2.2.symm hp
        · simp only [Prod.mk.injEq] at h; exact h.2.1.symm
      exact good (fun h => absurd h hp) (by rw [hb]; simp) (by rw [hb]; rfl)
  · have hd' : digL a = false := by simpa using hd
    have hz : secL s.data.toList = (0, 3) := HZ.out.trans (if_pos (Or.inl hd'))
    have HZ' := Lib.hid hz; clear hz hd
    go_enter Tryz.func27, Tryz.ntmps27
    go_wp2_with fail
    refine (cut_any hs HL.out HC.out).mono ?_
    rintro e w1 ⟨rfl, hb1⟩
    have HB1 := Lib.hid hb1; clear hb1
    go_wp2_with fail
    refine (digits_any _ _ (by exact ha4)).mono ?_
    rintro e w2 ⟨rfl, hb2⟩
    rw [show (ByteArray.mk a.toArray).data.toList = a from rfl, hd']
    have HB2 := Lib.hid hb2; clear hb2
    go_wp2_with fail
    go_ret2
    rw [HZ'.out]
    exact ⟨rfl, HB1.out.trans (HB2.out.mono HB1.out.size)⟩
end Go.Proofs.YtjojihadnplllaaGreatDoor
