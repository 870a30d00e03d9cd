/- The methods of grammar's reader that read a cue, a level, a time, a profile's name, an attribute. -/
import Derived.Test.YtjojihadnplllaaGreatDoorCmA
import Derived.Test.YtjojihadnplllaaGreatDoorTxtD
import Derived.Test.YtjojihadnplllaaGreatDoorLxD
namespace Go.Proofs.YtjojihadnplllaaGreatDoor
open Go.RowKit Go Go.Shelf Go.Proofs

theorem Right.hdShort {ts : List Tok} (h : Right ts) : (hd ts).text.size ≤ 4096 := by
  obtain ⟨t, l, rfl⟩ := h.cons
  exact h.short


def cueP (ts : List Tok) : Res ByteArray :=
  (numberP ts).bind fun s ts1 => (mustP (numChk s.data.toList) ts1).bind fun _ ts2 => .ok (hd ts2).text ts2.tail

set_option maxHeartbeats 1000000 in
theorem cue_any {rb : Nat} {ts : List Tok} {w : World} (h : Rd w rb ts) (hR : Right ts) :
    Calls Tryz.prog 272 #[.pointer (some ⟨rb, 0, none⟩)] w (Post rb w (cueP ts) repStr) := by
  have H := Lib.hid (St.start h hR (cueP ts)); clear h hR
  go_enter Tryz.func272, Tryz.ntmps272
  go_wp2_with fail
  refine St.number H.out ?_ (by (intro p e w1 hr he; exact ⟨rfl, Post.mkErr hr he⟩))
  intro w1 HK H1
  go_wp2_with fail
  refine (numcheck_any _ _ H1.out.right.hdShort H1.out.rd.laid).mono ?_
  rintro e w2 ⟨rfl, hb⟩
  have H2 := Lib.hid (H1.out.below hb); clear hb
  go_wp2_with fail
  refine St.must H2.out ?_ (by (intro p e w1 hr he; exact ⟨rfl, Post.mkErr hr he⟩))
  intro w3 _ H3
  go_wp2_with fail
  refine St.pass H3.out (by rw [HK.out]; decide) ?_
  intro w4 H4
  go_wp2_with fail
  go_ret
  exact H4.out.done rfl

def kFull : ByteArray := ⟨#[102, 117, 108, 108]⟩
def levelP (ts : List Tok) : Res Int :=
  (if tokIs (hd ts) 0 ⟨#[102, 117, 108, 108]⟩ = true then Res.ok (hd ts).text ts else numberP ts).bind fun s ts1 =>
    (mustP (perL s.data.toList).2 ts1).bind fun _ ts2 => .ok (perL s.data.toList).1 ts2.tail

set_option maxHeartbeats 1000000 in
theorem level_any {rb : Nat} {ts : List Tok} {w : World} (h : Rd w rb ts) (hR : Right ts) :
    Calls Tryz.prog 188 #[.pointer (some ⟨rb, 0, none⟩)] w (Post rb w (levelP ts) repInt) := by
  have H := Lib.hid (St.start h hR (levelP ts)); clear h hR
  go_enter Tryz.func188, Tryz.ntmps188
  go_wp2_with fail
  refine St.is _ _ H.out ?_
  intro w1 H1
  cases hf : tokIs (hd ts) 0 ⟨#[102, 117, 108, 108]⟩
  · have H1' := Lib.hid (H1.out.cast (show levelP ts = (numberP ts).bind _ by unfold levelP; rw [if_neg (by rw [hf]; decide)])); clear H1 hf
    go_wp2_with fail
    refine St.number H1'.out ?_ (by (intro p e w1 hr he; exact ⟨rfl, Post.mkErr hr he⟩))
    intro w2 HK H2
    go_wp2_with fail
    refine St.next H2.out ?_
    intro w3 H3
    go_wp2_with fail
    refine (percent_any _ _ H3.out.right.hdShort H3.out.rd.laid).mono ?_
    rintro e w4 ⟨rfl, hb⟩
    have H4 := Lib.hid (H3.out.below hb); clear hb
    go_wp2_with fail
    refine St.must H4.out ?_ (by (intro p e w1 hr he; exact ⟨rfl, Post.mkErr hr he⟩))
    intro w5 _ H5
    go_wp2_with fail
    refine St.pass H5.out (by rw [HK.out]; decide) ?_
    intro w6 H6
    go_wp2_with fail
    go_ret
    exact H6.out.done rfl
  · have HK := Lib.hid (show (hd ts).kind ≠ 3 by unfold tokIs at hf; simp at hf; omega)
    have H1' := Lib.hid (H1.out.cast (show levelP ts = (Res.ok (hd ts).text ts).bind _ by unfold levelP; rw [if_pos hf])); clear H1 hf
    rw [Res.bind_ok] at H1'
    go_wp2_with fail
    refine St.next H1'.out ?_
    intro w3 H3
    go_wp2_with fail
    refine (percent_any _ _ H3.out.right.hdShort H3.out.rd.laid).mono ?_
    rintro e w4 ⟨rfl, hb⟩
    have H4 := Lib.hid (H3.out.below hb); clear hb
    go_wp2_with fail
    refine St.must H4.out ?_ (by (intro p e w1 hr he; exact ⟨rfl, Post.mkErr hr he⟩))
    intro w5 _ H5
    go_wp2_with fail
    refine St.pass H5.out HK.out ?_
    intro w6 H6
    go_wp2_with fail
    go_ret
    exact H6.out.done rfl

def timeP (ts : List Tok) : Res Int :=
  (wordP [⟨#[116, 105, 109, 101]⟩] ts).bind fun s ts1 =>
    if s.toList.isEmpty = true then .ok (-1) ts1
    else (numberP ts1).bind fun x ts2 => (mustP (secL x.data.toList).2 ts2).bind fun _ ts3 => .ok (secL x.data.toList).1 ts3.tail

set_option maxHeartbeats 1000000 in
theorem time_any {rb : Nat} {ts : List Tok} {w : World} (h : Rd w rb ts) (hR : Right ts) :
    Calls Tryz.prog 189 #[.pointer (some ⟨rb, 0, none⟩)] w (Post rb w (timeP ts) repInt) := by
  have H := Lib.hid (St.start h hR (timeP ts)); clear h hR
  go_enter Tryz.func189, Tryz.ntmps189
  go_wp2_with fail
  refine St.word [⟨#[116, 105, 109, 101]⟩] rfl (by decide) H.out rfl ?_ (by (intro p e w1 hr he; exact ⟨rfl, Post.mkErr hr he⟩))
  intro s ts1 w1 _ H1
  by_cases hz : s.toList.isEmpty = true
  · have H1' := Lib.hid (H1.out.cast (if_pos hz)); clear H1
    go_wp2_with fail
    go_ret
    exact H1'.out.done rfl
  · have H1' := Lib.hid (H1.out.cast (if_neg hz)); clear H1
    have hz' : s.toList.isEmpty = false := by simpa using hz
    clear hz
    go_wp2_with fail
    refine St.number H1'.out ?_ (by (intro p e w1 hr he; exact ⟨rfl, Post.mkErr hr he⟩))
    intro w2 HK H2
    go_wp2_with fail
    refine (seconds_any _ _ H2.out.right.hdShort H2.out.rd.laid).mono ?_
    rintro e w4 ⟨rfl, hb⟩
    have H4 := Lib.hid (H2.out.below hb); clear hb
    go_wp2_with fail
    refine St.must H4.out ?_ (by (intro p e w1 hr he; exact ⟨rfl, Post.mkErr hr he⟩))
    intro w5 _ H5
    go_wp2_with fail
    refine St.pass H5.out (by rw [HK.out]; decide) ?_
    intro w6 H6
    go_wp2_with fail
    go_ret
    exact H6.out.done rfl

def profileP (ts : List Tok) : Res ByteArray :=
  if (hd ts).kind = 0 then
    (if lexWord (hd ts).text = 8 then .err (hd ts).pos 4 else if lexWord (hd ts).text = 13 then .err (hd ts).pos 8 else .ok (hd ts).text ts.tail)
  else .err (hd ts).pos 4

set_option maxHeartbeats 1000000 in
theorem profile_any {rb : Nat} {ts : List Tok} {w : World} (h : Rd w rb ts) (hR : Right ts) :
    Calls Tryz.prog 270 #[.pointer (some ⟨rb, 0, none⟩)] w (Post rb w (profileP ts) repStr) := by
  have H := Lib.hid (St.start h hR (profileP ts)); clear h hR
  by_cases hk : (hd ts).kind = 0
  · have H' := Lib.hid (H.out.cast (if_pos hk)); clear H
    have HK := Lib.hid (show (hd ts).kind ≠ 3 by omega)
    have hk' : ((hd ts).kind != 0) = false := by simpa using hk
    clear hk
    by_cases h8 : lexWord (hd ts).text = 8
    · have H2 := Lib.hid (H'.out.cast (if_pos h8)); clear H'
      go_enter Tryz.func270, Tryz.ntmps270
      go_wp2_with fail
      refine St.next H2.out ?_
      intro w1 H3
      go_wp2_with fail
      refine St.next H3.out ?_
      intro w2 H4
      go_wp2_with fail
      refine (lword_any _ _ H4.out.right.hdShort).mono ?_
      rintro e w4 ⟨rfl, hb⟩
      rw [h8]
      have H5 := Lib.hid (H4.out.below hb); clear hb
      go_wp2_with fail
      exact St.fail H5.out (by (intro p e w1 hr he; exact ⟨rfl, Post.mkErr hr he⟩))
    · have H2 := Lib.hid (H'.out.cast (if_neg h8)); clear H'
      have h8' : (lexWord (hd ts).text == 8) = false := by simpa using h8
      clear h8
      by_cases h13 : lexWord (hd ts).text = 13
      · have H2' := Lib.hid (H2.out.cast (if_pos h13)); clear H2
        have h13' : (lexWord (hd ts).text == 13) = true := by simpa using h13
        clear h13
        go_enter Tryz.func270, Tryz.ntmps270
        go_wp2_with fail
        refine St.next H2'.out ?_
        intro w1 H3
        go_wp2_with fail
        refine St.next H3.out ?_
        intro w2 H4
        go_wp2_with fail
        refine (lword_any _ _ H4.out.right.hdShort).mono ?_
        rintro e w4 ⟨rfl, hb⟩
        have H5 := Lib.hid (H4.out.below hb); clear hb
        go_wp2_with fail
        exact St.fail H5.out (by (intro p e w1 hr he; exact ⟨rfl, Post.mkErr hr he⟩))
      · have H2' := Lib.hid (H2.out.cast (if_neg h13)); clear H2
        have h13' : (lexWord (hd ts).text == 13) = false := by simpa using h13
        clear h13
        go_enter Tryz.func270, Tryz.ntmps270
        go_wp2_with fail
        refine St.next H2'.out ?_
        intro w1 H3
        go_wp2_with fail
        refine St.next H3.out ?_
        intro w2 H4
        go_wp2_with fail
        refine (lword_any _ _ H4.out.right.hdShort).mono ?_
        rintro e w4 ⟨rfl, hb⟩
        have H5 := Lib.hid (H4.out.below hb); clear hb
        go_wp2_with fail
        refine St.pass H5.out HK.out ?_
        intro w6 H6
        go_wp2_with fail
        go_ret
        exact H6.out.done rfl
  · have H' := Lib.hid (H.out.cast (if_neg hk)); clear H
    have hk' : ((hd ts).kind != 0) = true := by simpa using hk
    clear hk
    go_enter Tryz.func270, Tryz.ntmps270
    go_wp2_with fail
    refine St.next H'.out ?_
    intro w1 H3
    go_wp2_with fail
    exact St.fail H3.out (by (intro p e w1 hr he; exact ⟨rfl, Post.mkErr hr he⟩))

def kindP (nn : Int) (ts : List Tok) : Res Int :=
  if (hd ts).kind = 0 ∧ (attrL (hd ts).text).2 = 0 then .ok (attrL (hd ts).text).1 ts.tail else .ok nn ts

set_option maxHeartbeats 1000000 in
theorem kind_any {rb : Nat} {ts : List Tok} {w : World} (nn : Int) (h : Rd w rb ts) (hR : Right ts) :
    Calls Tryz.prog 184 #[.pointer (some ⟨rb, 0, none⟩), .int .i64 nn] w (Post rb w (kindP nn ts) repInt) := by
  have H := Lib.hid (St.start h hR (kindP nn ts)); clear h hR
  by_cases hk : (hd ts).kind = 0
  · have HK := Lib.hid (show (hd ts).kind ≠ 3 by omega)
    have HK0 := Lib.hid hk
    have hk' : ((hd ts).kind != 0) = false := by simpa using hk
    clear hk
    by_cases ha : (attrL (hd ts).text).2 = 0
    · have H' := Lib.hid (H.out.cast (if_pos ⟨HK0.out, ha⟩)); clear H
      have ha' : ((attrL (hd ts).text).2 != 0) = false := by simpa using ha
      clear ha
      go_enter Tryz.func184, Tryz.ntmps184
      go_wp2_with fail
      refine St.next H'.out ?_
      intro w1 H3
      go_wp2_with fail
      refine St.next H3.out ?_
      intro w2 H4
      go_wp2_with fail
      refine (attr_any _ _ H4.out.rd.laid).mono ?_
      rintro e w4 ⟨rfl, hb⟩
      have H5 := Lib.hid (H4.out.below hb); clear hb
      go_wp2_with fail
      refine St.pass H5.out HK.out ?_
      intro w6 H6
      go_wp2_with fail
      go_ret
      exact H6.out.done rfl
    · have H' := Lib.hid (H.out.cast (if_neg (fun hh => ha hh.2))); clear H
      have ha' : ((attrL (hd ts).text).2 != 0) = true := by simpa using ha
      clear ha
      go_enter Tryz.func184, Tryz.ntmps184
      go_wp2_with fail
      refine St.next H'.out ?_
      intro w1 H3
      go_wp2_with fail
      refine St.next H3.out ?_
      intro w2 H4
      go_wp2_with fail
      refine (attr_any _ _ H4.out.rd.laid).mono ?_
      rintro e w4 ⟨rfl, hb⟩
      have H5 := Lib.hid (H4.out.below hb); clear hb
      go_wp2_with fail
      go_ret
      exact H5.out.done rfl
  · have H' := Lib.hid (H.out.cast (if_neg (fun hh => hk hh.1))); clear H
    have hk' : ((hd ts).kind != 0) = true := by simpa using hk
    clear hk
    go_enter Tryz.func184, Tryz.ntmps184
    go_wp2_with fail
    refine St.next H'.out ?_
    intro w1 H3
    go_wp2_with fail
    go_ret
    exact H3.out.done rfl

def listP (ts : List Tok) : Res Int := intP 1048576 ts
set_option maxHeartbeats 400000 in
theorem list_any {rb : Nat} {ts : List Tok} {w : World} (h : Rd w rb ts) (hR : Right ts) :
    Calls Tryz.prog 187 #[.pointer (some ⟨rb, 0, none⟩)] w (Post rb w (listP ts) repInt) := by
  have H := Lib.hid (St.start h hR ((listP ts).bind fun n ts1 => .ok n ts1))
  have HP : Hid ((listP ts).bind (fun n ts1 => Res.ok n ts1) = listP ts) := by cases listP ts <;> exact Lib.hid rfl
  rw [← HP.out]
  clear h hR HP
  go_enter Tryz.func187, Tryz.ntmps187
  go_wp2_with fail
  refine H.out.call (int_any _ H.out.rd H.out.right) ?_ (by (intro p e w1 hr he; exact ⟨rfl, Post.mkErr hr he⟩))
  rintro n ts1 v w1 _ rfl H1
  go_wp2_with fail
  go_ret
  exact H1.out.done rfl
end Go.Proofs.YtjojihadnplllaaGreatDoor
