/- The methods of grammar's reader that read a number, a cue, a level, a time, a channel, a profile's name. -/
import Derived.Test.YtjojihadnplllaaGreatDoorGrA
namespace Go.Proofs.YtjojihadnplllaaGreatDoor
open Go.RowKit Go Go.Shelf Go.Proofs

/-- int: an integer from 1 to a greatest one. -/
def intP (most : Int) (ts : List Tok) : Res Int :=
  (numberP ts).bind fun s ts' =>
    if digL s.data.toList = false then .err (hd ts').pos 4
    else if valL s.data.toList < 1 ∨ most < valL s.data.toList then .err (hd ts').pos 2
    else .ok (valL s.data.toList) ts'.tail

theorem numberP_ok {ts : List Tok} {s : ByteArray} {ts' : List Tok} (h : numberP ts = .ok s ts') : ts' = ts ∧ s = (hd ts).text ∧ (hd ts).kind = 1 := by
  unfold numberP at h
  split at h
  · rename_i hk; cases h; exact ⟨rfl, rfl, hk⟩
  · cases h

theorem Laid.rd {w : World} {rb : Nat} {ts : List Tok} (h : Rd w rb ts) : Laid w := h.1

set_option maxHeartbeats 1000000 in
theorem int_any {rb : Nat} {ts : List Tok} {w : World} (most : Int) (h : Rd w rb ts) (hR : Right ts) :
    Calls Tryz.prog 244 #[.pointer (some ⟨rb, 0, none⟩), .int .i64 most] w (Post rb w (intP most ts) repInt) := by
  obtain ⟨t, l, rfl⟩ := hR.cons
  have H := Lib.hid h; clear h
  have HR := Lib.hid hR; clear hR
  go_enter Tryz.func244, Tryz.ntmps244
  go_wp2_with fail
  refine Post.step (number_any H.out HR.out) ?_ ?_
  · rintro s ts1 v w1 hr rfl he hrd hri
    obtain ⟨rfl, rfl, hk1⟩ := numberP_ok hr
    have HP := Lib.hid (show intP most (t :: l) = if digL t.text.data.toList = false then .err t.pos 4
      else if valL t.text.data.toList < 1 ∨ most < valL t.text.data.toList then .err t.pos 2 else .ok (valL t.text.data.toList) l by unfold intP; rw [hr]; rfl)
    have HK := Lib.hid (show t.kind ≠ 3 by rw [show t.kind = 1 from hk1]; decide)
    have HE := Lib.hid he
    have HD := Lib.hid hrd
    have hsz := hri.short
    simp only [hd, List.headD_cons] at hsz ⊢
    clear hr he hrd hri hk1
    go_wp2_with fail
    refine (digits_any _ _ hsz).mono ?_
    rintro e w2 ⟨rfl, hb2⟩
    have HD2 := Lib.hid (HD.out.below hb2)
    have HE2 := Lib.hid (HE.out.trans (Ext.of_below hb2))
    clear hb2 HD HE
    cases hd : digL t.text.data.toList
    · have HP2 := Lib.hid (HP.out.trans (if_pos hd))
      clear hd
      go_wp2_with fail
      refine (fail_any 4 HD2.out).mono ?_
      rintro e w3 ⟨rfl, hb3⟩
      exact ⟨rfl, Post.mkErr HP2.out (HE2.out.trans (Ext.of_below hb3))⟩
    · have HP2 := Lib.hid (HP.out.trans (if_neg (by rw [hd]; decide)))
      have hda := digL_all hd
      clear hd
      go_wp2_with fail
      refine (value_any _ _ (by omega) HD2.out.laid hda.1 hda.2).mono ?_
      rintro e w3 ⟨rfl, hb3⟩
      have HD3 := Lib.hid (HD2.out.below hb3)
      have HE3 := Lib.hid (HE2.out.trans (Ext.of_below hb3))
      clear hb3 HD2 HE2 hda
      generalize valL t.text.data.toList = n at *
      by_cases h1 : n < 1
      · have HP3 := Lib.hid (HP2.out.trans (if_pos (Or.inl h1)))
        go_wp2_with fail
        refine (fail_any 2 HD3.out).mono ?_
        rintro e w4 ⟨rfl, hb4⟩
        exact ⟨rfl, Post.mkErr HP3.out (HE3.out.trans (Ext.of_below hb4))⟩
      · by_cases h2 : most < n
        · have HP3 := Lib.hid (HP2.out.trans (if_pos (Or.inr h2)))
          go_wp2_with fail
          refine (fail_any 2 HD3.out).mono ?_
          rintro e w4 ⟨rfl, hb4⟩
          exact ⟨rfl, Post.mkErr HP3.out (HE3.out.trans (Ext.of_below hb4))⟩
        · have HP3 := Lib.hid (HP2.out.trans (if_neg (by omega)))
          go_wp2_with fail
          refine Post.step (pass_any HD3.out HR.out HK.out) ?_ ?_
          · intro a ts4 v w4 hr hv he hrd hri
            go_wp2_with fail
            go_ret
            cases hr
            exact Post.mkOk HP3.out rfl (HE3.out.trans he) hrd hri
          · intro p e w4 hr
            exact absurd hr (by simp)
  · intro p e w1 hr he
    exact ⟨rfl, Post.mkErr (by unfold intP; rw [hr]; rfl) he⟩
end Go.Proofs.YtjojihadnplllaaGreatDoor
