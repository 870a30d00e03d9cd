/- The methods of grammar's reader that read a whole command: remove, patch, record, clear, set. -/
import Derived.Test.YtjojihadnplllaaGreatDoorCmC
namespace Go.Proofs.YtjojihadnplllaaGreatDoor
open Go.RowKit Go Go.Shelf Go.Proofs

def removeQ (o : ByteArray) (ts1 : List Tok) : Res Cmd :=
  if o = ⟨#[99, 117, 101]⟩ then (placeP ts1).bind fun x ts2 => (wordP [⟨#[107, 101, 101, 112]⟩] ts2).bind fun y ts3 => .ok { cmd0 with kind := 4, verb := ⟨#[100, 101, 108, 101, 116, 101]⟩, object := o, list := x.1, number := x.2, flags := if y.toList.isEmpty = true then 0 else 2 } ts3
  else if o = ⟨#[102, 105, 120, 116, 117, 114, 101]⟩ then (unitP ts1).bind fun f ts2 => .ok { cmd0 with kind := 4, verb := ⟨#[100, 101, 108, 101, 116, 101]⟩, object := o, place := f } ts2
  else (listP ts1).bind fun n ts2 => .ok { cmd0 with kind := 4, verb := ⟨#[100, 101, 108, 101, 116, 101]⟩, object := o, list := n } ts2
def removeP (ts : List Tok) : Res Cmd := (needP [⟨#[99, 117, 101]⟩, ⟨#[112, 97, 108, 101, 116, 116, 101]⟩, ⟨#[103, 114, 111, 117, 112]⟩, ⟨#[115, 117, 98]⟩, ⟨#[101, 102, 102, 101, 99, 116]⟩, ⟨#[102, 105, 120, 116, 117, 114, 101]⟩] ts).bind removeQ

set_option maxRecDepth 100000 in
set_option maxHeartbeats 4000000 in
theorem remove_any {rb : Nat} {ts : List Tok} {w : World} (vb : ByteArray) (h : Rd w rb ts) (hR : Right ts) :
    Calls Tryz.prog 193 #[.pointer (some ⟨rb, 0, none⟩), .string vb] w (Post rb w (removeP ts) (repCmd w.heap.size)) := by
  have H := Lib.hid ((St.start h hR (removeP ts)).alloc (cmdCells cmd0 (.slice none 0 0)) 29); clear h hR
  go_enter Tryz.func193, Tryz.ntmps193
  go_wp2_with fail
  refine St.need [⟨#[99, 117, 101]⟩, ⟨#[112, 97, 108, 101, 116, 116, 101]⟩, ⟨#[103, 114, 111, 117, 112]⟩, ⟨#[115, 117, 98]⟩, ⟨#[101, 102, 102, 101, 99, 116]⟩, ⟨#[102, 105, 120, 116, 117, 114, 101]⟩] rfl (by decide) H.out (by simp) ?_ (by (intro p e w1 hr he; exact ⟨rfl, Post.mkErr hr he⟩))
  intro s tsH1 wH1 hs H1
  have H2 := Lib.hid (H1.out.alloc (cmdCells { cmd0 with kind := 4, verb := ⟨#[100, 101, 108, 101, 116, 101]⟩, object := s } (.slice none 0 0)) 29)
  simp only [List.mem_cons, List.not_mem_nil, or_false] at hs
  rcases hs with rfl | rfl | rfl | rfl | rfl | rfl
  · have H3 := Lib.hid (H2.out.cast (if_pos rfl)); clear H2 H1
    go_wp2_with (((with_reducible refine at_st (ty := 29) ?_); refine wpl_fresh (ty := 29) (cs := ?_) ?_ ?_ ?_ ?_ ?_ ?_; rotate_left; exact rfl; exact rfl; exact rfl; exact size29; exact rfl))
    refine H3.out.place ?_ (by (intro p e w1 hr he; exact ⟨rfl, Post.mkErr hr he⟩))
    intro n x ts3 w3 H4
    go_wp2_with fail
    refine St.word [⟨#[107, 101, 101, 112]⟩] rfl (by decide) H4.out (by simp) ?_ (by (intro p e w1 hr he; exact ⟨rfl, Post.mkErr hr he⟩))
    intro y ts4 w4 _ H5
    by_cases hz : y.toList.isEmpty = true
    · have H6 := Lib.hid (H5.out.cast (show _ = Res.ok { cmd0 with kind := 4, verb := ⟨#[100, 101, 108, 101, 116, 101]⟩, object := ⟨#[99, 117, 101]⟩, list := n, number := x } ts4 by rw [if_pos hz]; rfl))
      go_wp2_with (first | (((with_reducible refine at_ld (ty := 29) ?_); refine wpl_load (ty := 29) (St.head H6.out) ?_ Tryz.underlying29 ?_ ?_ ?_; exact rfl; exact rfl; exact size29)) | (((with_reducible refine at_st (ty := 29) ?_); refine wpl_store (ty := 29) (cs := ?_) (St.second H6.out) ?_ ?_ ?_ ?_ ?_ ?_; rotate_left; exact rfl; exact rfl; exact rfl; exact size29; exact rfl)))
      exact St.fin H6.out 4 (fun _ _ => Or.inl ⟨rfl, rfl⟩) rfl rfl rfl
    · have H6 := Lib.hid (H5.out.cast (show _ = Res.ok { cmd0 with kind := 4, verb := ⟨#[100, 101, 108, 101, 116, 101]⟩, object := ⟨#[99, 117, 101]⟩, list := n, number := x, flags := 2 } ts4 by rw [if_neg hz]))
      have hz' : y.toList.isEmpty = false := by simpa using hz
      clear hz H5
      obtain ⟨u, hc, hf⟩ := H6.out.cellC 10 (by decide)
      have H7 := Lib.hid (H6.out.setC 10 (.int .i64 2) { cmd0 with kind := 4, verb := ⟨#[100, 101, 108, 101, 116, 101]⟩, object := ⟨#[99, 117, 101]⟩, list := n, number := x, flags := 2 } (.slice none 0 0) (by decide) rfl)
      go_wp2_with (first | (((with_reducible refine at_ld (ty := 29) ?_); refine wpl_load (ty := 29) (St.head H7.out) ?_ Tryz.underlying29 ?_ ?_ ?_; exact rfl; exact rfl; exact size29)) | (((with_reducible refine at_st (ty := 29) ?_); refine wpl_store (ty := 29) (cs := ?_) (St.second H7.out) ?_ ?_ ?_ ?_ ?_ ?_; rotate_left; exact rfl; exact rfl; exact rfl; exact size29; exact rfl)))
      exact St.fin H7.out 4 (fun _ _ => Or.inl ⟨rfl, rfl⟩) rfl rfl rfl
  · have H3 := Lib.hid (H2.out.cast ((if_neg (by decide)).trans (if_neg (by decide)))); clear H2 H1
    go_wp2_with (((with_reducible refine at_st (ty := 29) ?_); refine wpl_fresh (ty := 29) (cs := ?_) ?_ ?_ ?_ ?_ ?_ ?_; rotate_left; exact rfl; exact rfl; exact rfl; exact size29; exact rfl))
    refine H3.out.call (list_any H3.out.rd H3.out.right) ?_ (by (intro p e w1 hr he; exact ⟨rfl, Post.mkErr hr he⟩))
    rintro n tsH4 _ wH4 _ rfl H4a
    obtain ⟨uH4, hcH4, hfH4⟩ := H4a.out.cellC 4 (by decide)
    have H4 := Lib.hid (H4a.out.setC 4 (.int .i64 n) { cmd0 with kind := 4, verb := ⟨#[100, 101, 108, 101, 116, 101]⟩, object := ⟨#[112, 97, 108, 101, 116, 116, 101]⟩, list := n } (.slice none 0 0) (by decide) rfl)
    go_wp2_with (first | (((with_reducible refine at_ld (ty := 29) ?_); refine wpl_load (ty := 29) (St.head H4.out) ?_ Tryz.underlying29 ?_ ?_ ?_; exact rfl; exact rfl; exact size29)) | (((with_reducible refine at_st (ty := 29) ?_); refine wpl_store (ty := 29) (cs := ?_) (St.second H4.out) ?_ ?_ ?_ ?_ ?_ ?_; rotate_left; exact rfl; exact rfl; exact rfl; exact size29; exact rfl)))
    exact St.fin H4.out 4 (fun _ _ => Or.inl ⟨rfl, rfl⟩) rfl rfl rfl
  · have H3 := Lib.hid (H2.out.cast ((if_neg (by decide)).trans (if_neg (by decide)))); clear H2 H1
    go_wp2_with (((with_reducible refine at_st (ty := 29) ?_); refine wpl_fresh (ty := 29) (cs := ?_) ?_ ?_ ?_ ?_ ?_ ?_; rotate_left; exact rfl; exact rfl; exact rfl; exact size29; exact rfl))
    refine H3.out.call (list_any H3.out.rd H3.out.right) ?_ (by (intro p e w1 hr he; exact ⟨rfl, Post.mkErr hr he⟩))
    rintro n tsH4 _ wH4 _ rfl H4a
    obtain ⟨uH4, hcH4, hfH4⟩ := H4a.out.cellC 4 (by decide)
    have H4 := Lib.hid (H4a.out.setC 4 (.int .i64 n) { cmd0 with kind := 4, verb := ⟨#[100, 101, 108, 101, 116, 101]⟩, object := ⟨#[103, 114, 111, 117, 112]⟩, list := n } (.slice none 0 0) (by decide) rfl)
    go_wp2_with (first | (((with_reducible refine at_ld (ty := 29) ?_); refine wpl_load (ty := 29) (St.head H4.out) ?_ Tryz.underlying29 ?_ ?_ ?_; exact rfl; exact rfl; exact size29)) | (((with_reducible refine at_st (ty := 29) ?_); refine wpl_store (ty := 29) (cs := ?_) (St.second H4.out) ?_ ?_ ?_ ?_ ?_ ?_; rotate_left; exact rfl; exact rfl; exact rfl; exact size29; exact rfl)))
    exact St.fin H4.out 4 (fun _ _ => Or.inl ⟨rfl, rfl⟩) rfl rfl rfl
  · have H3 := Lib.hid (H2.out.cast ((if_neg (by decide)).trans (if_neg (by decide)))); clear H2 H1
    go_wp2_with (((with_reducible refine at_st (ty := 29) ?_); refine wpl_fresh (ty := 29) (cs := ?_) ?_ ?_ ?_ ?_ ?_ ?_; rotate_left; exact rfl; exact rfl; exact rfl; exact size29; exact rfl))
    refine H3.out.call (list_any H3.out.rd H3.out.right) ?_ (by (intro p e w1 hr he; exact ⟨rfl, Post.mkErr hr he⟩))
    rintro n tsH4 _ wH4 _ rfl H4a
    obtain ⟨uH4, hcH4, hfH4⟩ := H4a.out.cellC 4 (by decide)
    have H4 := Lib.hid (H4a.out.setC 4 (.int .i64 n) { cmd0 with kind := 4, verb := ⟨#[100, 101, 108, 101, 116, 101]⟩, object := ⟨#[115, 117, 98]⟩, list := n } (.slice none 0 0) (by decide) rfl)
    go_wp2_with (first | (((with_reducible refine at_ld (ty := 29) ?_); refine wpl_load (ty := 29) (St.head H4.out) ?_ Tryz.underlying29 ?_ ?_ ?_; exact rfl; exact rfl; exact size29)) | (((with_reducible refine at_st (ty := 29) ?_); refine wpl_store (ty := 29) (cs := ?_) (St.second H4.out) ?_ ?_ ?_ ?_ ?_ ?_; rotate_left; exact rfl; exact rfl; exact rfl; exact size29; exact rfl)))
    exact St.fin H4.out 4 (fun _ _ => Or.inl ⟨rfl, rfl⟩) rfl rfl rfl
  · have H3 := Lib.hid (H2.out.cast ((if_neg (by decide)).trans (if_neg (by decide)))); clear H2 H1
    go_wp2_with (((with_reducible refine at_st (ty := 29) ?_); refine wpl_fresh (ty := 29) (cs := ?_) ?_ ?_ ?_ ?_ ?_ ?_; rotate_left; exact rfl; exact rfl; exact rfl; exact size29; exact rfl))
    refine H3.out.call (list_any H3.out.rd H3.out.right) ?_ (by (intro p e w1 hr he; exact ⟨rfl, Post.mkErr hr he⟩))
    rintro n tsH4 _ wH4 _ rfl H4a
    obtain ⟨uH4, hcH4, hfH4⟩ := H4a.out.cellC 4 (by decide)
    have H4 := Lib.hid (H4a.out.setC 4 (.int .i64 n) { cmd0 with kind := 4, verb := ⟨#[100, 101, 108, 101, 116, 101]⟩, object := ⟨#[101, 102, 102, 101, 99, 116]⟩, list := n } (.slice none 0 0) (by decide) rfl)
    go_wp2_with (first | (((with_reducible refine at_ld (ty := 29) ?_); refine wpl_load (ty := 29) (St.head H4.out) ?_ Tryz.underlying29 ?_ ?_ ?_; exact rfl; exact rfl; exact size29)) | (((with_reducible refine at_st (ty := 29) ?_); refine wpl_store (ty := 29) (cs := ?_) (St.second H4.out) ?_ ?_ ?_ ?_ ?_ ?_; rotate_left; exact rfl; exact rfl; exact rfl; exact size29; exact rfl)))
    exact St.fin H4.out 4 (fun _ _ => Or.inl ⟨rfl, rfl⟩) rfl rfl rfl
  · have H3 := Lib.hid (H2.out.cast ((if_neg (by decide)).trans (if_pos rfl))); clear H2 H1
    go_wp2_with (((with_reducible refine at_st (ty := 29) ?_); refine wpl_fresh (ty := 29) (cs := ?_) ?_ ?_ ?_ ?_ ?_ ?_; rotate_left; exact rfl; exact rfl; exact rfl; exact size29; exact rfl))
    refine H3.out.call (unit_any H3.out.rd H3.out.right) ?_ (by (intro p e w1 hr he; exact ⟨rfl, Post.mkErr hr he⟩))
    rintro f ts3 _ w3 _ rfl H4
    have H5 := Lib.hid (H4.out.setPlace f)
    obtain ⟨u1, hc1, hf1⟩ := H4.out.cellC 11 (by decide)
    obtain ⟨u2, hc2, hf2⟩ := H4.out.cellC 12 (by decide)
    obtain ⟨u3, hc3, hf3⟩ := H4.out.cellC 13 (by decide)
    obtain ⟨u4, hc4, hf4⟩ := H4.out.cellC 14 (by decide)
    obtain ⟨u5, hc5, hf5⟩ := H4.out.cellC 15 (by decide)
    obtain ⟨u6, hc6, hf6⟩ := H4.out.cellC 16 (by decide)
    obtain ⟨u7, hc7, hf7⟩ := H4.out.cellC 17 (by decide)
    unfold fixCells
    go_wp2_with (first | (((with_reducible refine at_ld (ty := 29) ?_); refine wpl_load (ty := 29) (St.head H5.out) ?_ Tryz.underlying29 ?_ ?_ ?_; exact rfl; exact rfl; exact size29)) | (((with_reducible refine at_st (ty := 29) ?_); refine wpl_store (ty := 29) (cs := ?_) (St.second H5.out) ?_ ?_ ?_ ?_ ?_ ?_; rotate_left; exact rfl; exact rfl; exact rfl; exact size29; exact rfl)))
    exact St.fin H5.out 4 (fun _ _ => Or.inl ⟨rfl, rfl⟩) rfl rfl rfl

def recordV (c : Cmd) (v : Int) (ts5 : List Tok) : Res Cmd := (timeP ts5).bind fun t ts6 => .ok { c with level := v, time := t } ts6
def recordQ (o : ByteArray) (ts1 : List Tok) : Res Cmd :=
  if o = ⟨#[99, 117, 101]⟩ then (placeP ts1).bind fun x ts2 => (wordP [⟨#[111, 110, 108, 121]⟩] ts2).bind fun y ts3 => (wordP [⟨#[112, 97, 114, 116]⟩] ts3).bind fun z ts4 =>
    (if z.toList.isEmpty = true then Res.ok 1 ts4 else intP 4 ts4).bind (recordV { cmd0 with kind := 2, verb := ⟨#[114, 101, 99, 111, 114, 100]⟩, object := o, list := x.1, number := x.2, flags := if y.toList.isEmpty = true then 0 else 1 })
  else (listP ts1).bind fun n ts2 =>
    if o = ⟨#[103, 114, 111, 117, 112]⟩ then (selectionP ts2).bind fun l ts3 => .ok { cmd0 with kind := 2, verb := ⟨#[114, 101, 99, 111, 114, 100]⟩, object := o, list := n, sel := l } ts3
    else .ok { cmd0 with kind := 2, verb := ⟨#[114, 101, 99, 111, 114, 100]⟩, object := o, list := n } ts2
def recordP (ts : List Tok) : Res Cmd := (needP [⟨#[99, 117, 101]⟩, ⟨#[112, 97, 108, 101, 116, 116, 101]⟩, ⟨#[115, 117, 98]⟩, ⟨#[103, 114, 111, 117, 112]⟩] ts).bind recordQ

set_option maxRecDepth 100000 in
set_option maxHeartbeats 4000000 in
theorem record_any {rb : Nat} {ts : List Tok} {w : World} (vb : ByteArray) (h : Rd w rb ts) (hR : Right ts) :
    Calls Tryz.prog 191 #[.pointer (some ⟨rb, 0, none⟩), .string vb] w (Post rb w (recordP ts) (repCmd w.heap.size)) := by
  have H := Lib.hid ((St.start h hR (recordP ts)).alloc (cmdCells cmd0 (.slice none 0 0)) 29); clear h hR
  go_enter Tryz.func191, Tryz.ntmps191
  go_wp2_with fail
  refine St.need [⟨#[99, 117, 101]⟩, ⟨#[112, 97, 108, 101, 116, 116, 101]⟩, ⟨#[115, 117, 98]⟩, ⟨#[103, 114, 111, 117, 112]⟩] rfl (by decide) H.out (by simp) ?_ (by (intro p e w1 hr he; exact ⟨rfl, Post.mkErr hr he⟩))
  intro s tsH1 wH1 hs H1
  have H2 := Lib.hid (H1.out.alloc (cmdCells { cmd0 with kind := 2, verb := ⟨#[114, 101, 99, 111, 114, 100]⟩, object := s } (.slice none 0 0)) 29)
  simp only [List.mem_cons, List.not_mem_nil, or_false] at hs
  rcases hs with rfl | rfl | rfl | rfl
  · have H3 := Lib.hid (H2.out.cast (if_pos rfl)); clear H2 H1
    go_wp2_with (((with_reducible refine at_st (ty := 29) ?_); refine wpl_fresh (ty := 29) (cs := ?_) ?_ ?_ ?_ ?_ ?_ ?_; rotate_left; exact rfl; exact rfl; exact rfl; exact size29; exact rfl))
    refine H3.out.place ?_ (by (intro p e w1 hr he; exact ⟨rfl, Post.mkErr hr he⟩))
    intro n x ts3 w3 H4
    go_wp2_with fail
    refine St.word [⟨#[111, 110, 108, 121]⟩] rfl (by decide) H4.out (by simp) ?_ (by (intro p e w1 hr he; exact ⟨rfl, Post.mkErr hr he⟩))
    intro y ts4 w4 _ H5
    by_cases hz : y.toList.isEmpty = true
    · obtain ⟨u, hc, hf⟩ := H5.out.cellC 7 (by decide)
      have H7 := Lib.hid (H5.out.setC 7 (.int .i64 1) { cmd0 with kind := 2, verb := ⟨#[114, 101, 99, 111, 114, 100]⟩, object := ⟨#[99, 117, 101]⟩, list := n, number := x, level := 1 } (.slice none 0 0) (by decide) rfl)
      go_wp2_with fail
      refine St.word [⟨#[112, 97, 114, 116]⟩] rfl (by decide) H7.out (by simp) ?_ (by (intro p e w1 hr he; exact ⟨rfl, Post.mkErr hr he⟩))
      intro z ts5 w5 _ H8
      clear hc hf
      by_cases hp : z.toList.isEmpty = true
      · have H9 := Lib.hid (H8.out.cast (show _ = (Res.ok 1 ts5).bind (recordV _) by rw [if_pos hp])); clear H8
        rw [Res.bind_ok] at H9
        unfold recordV at H9
        go_wp2_with fail
        refine H9.out.call (time_any H9.out.rd H9.out.right) ?_ (by (intro p e w1 hr he; exact ⟨rfl, Post.mkErr hr he⟩))
        rintro t ts6 _ w6 _ rfl H10
        have H11 := Lib.hid (H10.out.cast (show _ = Res.ok { cmd0 with kind := 2, verb := ⟨#[114, 101, 99, 111, 114, 100]⟩, object := ⟨#[99, 117, 101]⟩, list := n, number := x, level := 1, time := t } ts6 by rw [if_pos hz]; rfl))
        obtain ⟨u, hc, hf⟩ := H11.out.cellC 9 (by decide)
        have H12 := Lib.hid (H11.out.setC 9 (.int .i64 t) { cmd0 with kind := 2, verb := ⟨#[114, 101, 99, 111, 114, 100]⟩, object := ⟨#[99, 117, 101]⟩, list := n, number := x, level := 1, time := t } (.slice none 0 0) (by decide) rfl)
        go_wp2_with (first | (((with_reducible refine at_ld (ty := 29) ?_); refine wpl_load (ty := 29) (St.head H12.out) ?_ Tryz.underlying29 ?_ ?_ ?_; exact rfl; exact rfl; exact size29)) | (((with_reducible refine at_st (ty := 29) ?_); refine wpl_store (ty := 29) (cs := ?_) (St.second H12.out) ?_ ?_ ?_ ?_ ?_ ?_; rotate_left; exact rfl; exact rfl; exact rfl; exact size29; exact rfl)))
        exact St.fin H12.out 4 (fun _ _ => Or.inl ⟨rfl, rfl⟩) rfl rfl rfl
      · have H9 := Lib.hid (H8.out.cast (show _ = (intP 4 ts5).bind (recordV _) by rw [if_neg hp])); clear H8
        unfold recordV at H9
        have hp' : z.toList.isEmpty = false := by simpa using hp
        go_wp2_with fail
        refine H9.out.call (int_any 4 H9.out.rd H9.out.right) ?_ (by (intro p e w1 hr he; exact ⟨rfl, Post.mkErr hr he⟩))
        rintro v ts6 _ w6 _ rfl H10
        obtain ⟨u, hc, hf⟩ := H10.out.cellC 7 (by decide)
        have H10' := Lib.hid (H10.out.setC 7 (.int .i64 v) { cmd0 with kind := 2, verb := ⟨#[114, 101, 99, 111, 114, 100]⟩, object := ⟨#[99, 117, 101]⟩, list := n, number := x, level := v } (.slice none 0 0) (by decide) rfl)
        go_wp2_with fail
        refine H10'.out.call (time_any H10'.out.rd H10'.out.right) ?_ (by (intro p e w1 hr he; exact ⟨rfl, Post.mkErr hr he⟩))
        rintro t ts7 _ w7 _ rfl H11
        clear hc hf
        have H11' := Lib.hid (H11.out.cast (show _ = Res.ok { cmd0 with kind := 2, verb := ⟨#[114, 101, 99, 111, 114, 100]⟩, object := ⟨#[99, 117, 101]⟩, list := n, number := x, level := v, time := t } ts7 by rw [if_pos hz]; rfl))
        obtain ⟨u, hc, hf⟩ := H11'.out.cellC 9 (by decide)
        have H12 := Lib.hid (H11'.out.setC 9 (.int .i64 t) { cmd0 with kind := 2, verb := ⟨#[114, 101, 99, 111, 114, 100]⟩, object := ⟨#[99, 117, 101]⟩, list := n, number := x, level := v, time := t } (.slice none 0 0) (by decide) rfl)
        go_wp2_with (first | (((with_reducible refine at_ld (ty := 29) ?_); refine wpl_load (ty := 29) (St.head H12.out) ?_ Tryz.underlying29 ?_ ?_ ?_; exact rfl; exact rfl; exact size29)) | (((with_reducible refine at_st (ty := 29) ?_); refine wpl_store (ty := 29) (cs := ?_) (St.second H12.out) ?_ ?_ ?_ ?_ ?_ ?_; rotate_left; exact rfl; exact rfl; exact rfl; exact size29; exact rfl)))
        exact St.fin H12.out 4 (fun _ _ => Or.inl ⟨rfl, rfl⟩) rfl rfl rfl
    · have hz' : y.toList.isEmpty = false := by simpa using hz
      obtain ⟨u, hc, hf⟩ := H5.out.cellC 10 (by decide)
      have H6 := Lib.hid (H5.out.setC 10 (.int .i64 1) { cmd0 with kind := 2, verb := ⟨#[114, 101, 99, 111, 114, 100]⟩, object := ⟨#[99, 117, 101]⟩, list := n, number := x, flags := 1 } (.slice none 0 0) (by decide) rfl)
      obtain ⟨u, hc', hf'⟩ := H5.out.cellC 7 (by decide)
      have H7 := Lib.hid (H6.out.setC 7 (.int .i64 1) { cmd0 with kind := 2, verb := ⟨#[114, 101, 99, 111, 114, 100]⟩, object := ⟨#[99, 117, 101]⟩, list := n, number := x, level := 1, flags := 1 } (.slice none 0 0) (by decide) rfl)
      go_wp2_with fail
      refine St.word [⟨#[112, 97, 114, 116]⟩] rfl (by decide) H7.out (by simp) ?_ (by (intro p e w1 hr he; exact ⟨rfl, Post.mkErr hr he⟩))
      intro z ts5 w5 _ H8
      clear hc hf hc' hf'
      by_cases hp : z.toList.isEmpty = true
      · have H9 := Lib.hid (H8.out.cast (show _ = (Res.ok 1 ts5).bind (recordV _) by rw [if_pos hp])); clear H8
        rw [Res.bind_ok] at H9
        unfold recordV at H9
        go_wp2_with fail
        refine H9.out.call (time_any H9.out.rd H9.out.right) ?_ (by (intro p e w1 hr he; exact ⟨rfl, Post.mkErr hr he⟩))
        rintro t ts6 _ w6 _ rfl H10
        have H11 := Lib.hid (H10.out.cast (show _ = Res.ok { cmd0 with kind := 2, verb := ⟨#[114, 101, 99, 111, 114, 100]⟩, object := ⟨#[99, 117, 101]⟩, list := n, number := x, level := 1, time := t, flags := 1 } ts6 by rw [if_neg hz]))
        obtain ⟨u, hc, hf⟩ := H11.out.cellC 9 (by decide)
        have H12 := Lib.hid (H11.out.setC 9 (.int .i64 t) { cmd0 with kind := 2, verb := ⟨#[114, 101, 99, 111, 114, 100]⟩, object := ⟨#[99, 117, 101]⟩, list := n, number := x, level := 1, time := t, flags := 1 } (.slice none 0 0) (by decide) rfl)
        go_wp2_with (first | (((with_reducible refine at_ld (ty := 29) ?_); refine wpl_load (ty := 29) (St.head H12.out) ?_ Tryz.underlying29 ?_ ?_ ?_; exact rfl; exact rfl; exact size29)) | (((with_reducible refine at_st (ty := 29) ?_); refine wpl_store (ty := 29) (cs := ?_) (St.second H12.out) ?_ ?_ ?_ ?_ ?_ ?_; rotate_left; exact rfl; exact rfl; exact rfl; exact size29; exact rfl)))
        exact St.fin H12.out 4 (fun _ _ => Or.inl ⟨rfl, rfl⟩) rfl rfl rfl
      · have H9 := Lib.hid (H8.out.cast (show _ = (intP 4 ts5).bind (recordV _) by rw [if_neg hp])); clear H8
        unfold recordV at H9
        have hp' : z.toList.isEmpty = false := by simpa using hp
        go_wp2_with fail
        refine H9.out.call (int_any 4 H9.out.rd H9.out.right) ?_ (by (intro p e w1 hr he; exact ⟨rfl, Post.mkErr hr he⟩))
        rintro v ts6 _ w6 _ rfl H10
        obtain ⟨u, hc, hf⟩ := H10.out.cellC 7 (by decide)
        have H10' := Lib.hid (H10.out.setC 7 (.int .i64 v) { cmd0 with kind := 2, verb := ⟨#[114, 101, 99, 111, 114, 100]⟩, object := ⟨#[99, 117, 101]⟩, list := n, number := x, level := v, flags := 1 } (.slice none 0 0) (by decide) rfl)
        go_wp2_with fail
        refine H10'.out.call (time_any H10'.out.rd H10'.out.right) ?_ (by (intro p e w1 hr he; exact ⟨rfl, Post.mkErr hr he⟩))
        rintro t ts7 _ w7 _ rfl H11
        clear hc hf
        have H11' := Lib.hid (H11.out.cast (show _ = Res.ok { cmd0 with kind := 2, verb := ⟨#[114, 101, 99, 111, 114, 100]⟩, object := ⟨#[99, 117, 101]⟩, list := n, number := x, level := v, time := t, flags := 1 } ts7 by rw [if_neg hz]))
        obtain ⟨u, hc, hf⟩ := H11'.out.cellC 9 (by decide)
        have H12 := Lib.hid (H11'.out.setC 9 (.int .i64 t) { cmd0 with kind := 2, verb := ⟨#[114, 101, 99, 111, 114, 100]⟩, object := ⟨#[99, 117, 101]⟩, list := n, number := x, level := v, time := t, flags := 1 } (.slice none 0 0) (by decide) rfl)
        go_wp2_with (first | (((with_reducible refine at_ld (ty := 29) ?_); refine wpl_load (ty := 29) (St.head H12.out) ?_ Tryz.underlying29 ?_ ?_ ?_; exact rfl; exact rfl; exact size29)) | (((with_reducible refine at_st (ty := 29) ?_); refine wpl_store (ty := 29) (cs := ?_) (St.second H12.out) ?_ ?_ ?_ ?_ ?_ ?_; rotate_left; exact rfl; exact rfl; exact rfl; exact size29; exact rfl)))
        exact St.fin H12.out 4 (fun _ _ => Or.inl ⟨rfl, rfl⟩) rfl rfl rfl
  · have H3 := Lib.hid (H2.out.cast (if_neg (by decide))); clear H2 H1
    go_wp2_with (((with_reducible refine at_st (ty := 29) ?_); refine wpl_fresh (ty := 29) (cs := ?_) ?_ ?_ ?_ ?_ ?_ ?_; rotate_left; exact rfl; exact rfl; exact rfl; exact size29; exact rfl))
    refine H3.out.call (list_any H3.out.rd H3.out.right) ?_ (by (intro p e w1 hr he; exact ⟨rfl, Post.mkErr hr he⟩))
    rintro n tsH4 _ wH4 _ rfl H4a
    obtain ⟨uH4, hcH4, hfH4⟩ := H4a.out.cellC 4 (by decide)
    have H4 := Lib.hid (H4a.out.setC 4 (.int .i64 n) { cmd0 with kind := 2, verb := ⟨#[114, 101, 99, 111, 114, 100]⟩, object := ⟨#[112, 97, 108, 101, 116, 116, 101]⟩, list := n } (.slice none 0 0) (by decide) rfl)
    have H5 := Lib.hid (H4.out.cast (if_neg (by decide)))
    have ho := H4a.out.head.cell (k := 2) rfl
    go_wp2_with (first | (((with_reducible refine at_ld (ty := 29) ?_); refine wpl_load (ty := 29) (St.head H5.out) ?_ Tryz.underlying29 ?_ ?_ ?_; exact rfl; exact rfl; exact size29)) | (((with_reducible refine at_st (ty := 29) ?_); refine wpl_store (ty := 29) (cs := ?_) (St.second H5.out) ?_ ?_ ?_ ?_ ?_ ?_; rotate_left; exact rfl; exact rfl; exact rfl; exact size29; exact rfl)))
    exact St.fin H5.out 4 (fun _ _ => Or.inl ⟨rfl, rfl⟩) rfl rfl rfl
  · have H3 := Lib.hid (H2.out.cast (if_neg (by decide))); clear H2 H1
    go_wp2_with (((with_reducible refine at_st (ty := 29) ?_); refine wpl_fresh (ty := 29) (cs := ?_) ?_ ?_ ?_ ?_ ?_ ?_; rotate_left; exact rfl; exact rfl; exact rfl; exact size29; exact rfl))
    refine H3.out.call (list_any H3.out.rd H3.out.right) ?_ (by (intro p e w1 hr he; exact ⟨rfl, Post.mkErr hr he⟩))
    rintro n tsH4 _ wH4 _ rfl H4a
    obtain ⟨uH4, hcH4, hfH4⟩ := H4a.out.cellC 4 (by decide)
    have H4 := Lib.hid (H4a.out.setC 4 (.int .i64 n) { cmd0 with kind := 2, verb := ⟨#[114, 101, 99, 111, 114, 100]⟩, object := ⟨#[115, 117, 98]⟩, list := n } (.slice none 0 0) (by decide) rfl)
    have H5 := Lib.hid (H4.out.cast (if_neg (by decide)))
    have ho := H4a.out.head.cell (k := 2) rfl
    go_wp2_with (first | (((with_reducible refine at_ld (ty := 29) ?_); refine wpl_load (ty := 29) (St.head H5.out) ?_ Tryz.underlying29 ?_ ?_ ?_; exact rfl; exact rfl; exact size29)) | (((with_reducible refine at_st (ty := 29) ?_); refine wpl_store (ty := 29) (cs := ?_) (St.second H5.out) ?_ ?_ ?_ ?_ ?_ ?_; rotate_left; exact rfl; exact rfl; exact rfl; exact size29; exact rfl)))
    exact St.fin H5.out 4 (fun _ _ => Or.inl ⟨rfl, rfl⟩) rfl rfl rfl
  · have H3 := Lib.hid (H2.out.cast (if_neg (by decide))); clear H2 H1
    go_wp2_with (((with_reducible refine at_st (ty := 29) ?_); refine wpl_fresh (ty := 29) (cs := ?_) ?_ ?_ ?_ ?_ ?_ ?_; rotate_left; exact rfl; exact rfl; exact rfl; exact size29; exact rfl))
    refine H3.out.call (list_any H3.out.rd H3.out.right) ?_ (by (intro p e w1 hr he; exact ⟨rfl, Post.mkErr hr he⟩))
    rintro n tsH4 _ wH4 _ rfl H4a
    obtain ⟨uH4, hcH4, hfH4⟩ := H4a.out.cellC 4 (by decide)
    have H4 := Lib.hid (H4a.out.setC 4 (.int .i64 n) { cmd0 with kind := 2, verb := ⟨#[114, 101, 99, 111, 114, 100]⟩, object := ⟨#[103, 114, 111, 117, 112]⟩, list := n } (.slice none 0 0) (by decide) rfl)
    have H5 := Lib.hid (H4.out.cast (if_pos (by trivial))); clear H4
    have ho := H4a.out.head.cell (k := 2) rfl
    go_wp2_with fail
    refine H5.out.call (selection_any H5.out.rd H5.out.right) ?_ (by (intro p e w1 hr he; exact ⟨rfl, Post.mkErr hr he⟩))
    rintro l ts5 _ w5 _ ⟨bs, cap, rfl, hlo, hown⟩ H6
    have H7 := Lib.hid ((H5.out.push H6.out hlo hown).swap)
    have hlo' := Lib.hid (Nat.le_trans H5.out.ext.size hlo)
    clear hlo hown H6 hcH4 hfH4 ho
    obtain ⟨u, hc, hf⟩ := H7.out.cellC 5 (by decide)
    have H8 := Lib.hid (H7.out.setC 5 (.slice (some ⟨bs, 0, none⟩) l.length cap) { cmd0 with kind := 2, verb := ⟨#[114, 101, 99, 111, 114, 100]⟩, object := ⟨#[103, 114, 111, 117, 112]⟩, list := n, sel := l } (.slice (some ⟨bs, 0, none⟩) l.length cap) (by decide) rfl)
    have H9 := Lib.hid H8.out.third_second
    go_wp2_with (first | (((with_reducible refine at_ld (ty := 29) ?_); refine wpl_load (ty := 29) (St.head H9.out) ?_ Tryz.underlying29 ?_ ?_ ?_; exact rfl; exact rfl; exact size29)) | (((with_reducible refine at_st (ty := 29) ?_); refine wpl_store (ty := 29) (cs := ?_) (St.second H9.out) ?_ ?_ ?_ ?_ ?_ ?_; rotate_left; exact rfl; exact rfl; exact rfl; exact size29; exact rfl)))
    exact St.fin H9.out 4 (fun _ hh => Or.inr ⟨_, _, rfl, hlo'.out, St.third hh⟩) rfl rfl rfl

def clearP (ts : List Tok) : Res Cmd :=
  if (hd ts).kind = 3 then .ok { cmd0 with kind := 1, verb := ⟨#[99, 108, 101, 97, 114]⟩, attr := -1 } ts
  else (selectionP ts).bind fun l ts1 => (kindP (-1) ts1).bind fun a ts2 => .ok { cmd0 with kind := 1, verb := ⟨#[99, 108, 101, 97, 114]⟩, sel := l, attr := a } ts2

set_option maxRecDepth 100000 in
set_option maxHeartbeats 4000000 in
theorem clear_any {rb : Nat} {ts : List Tok} {w : World} (vb : ByteArray) (h : Rd w rb ts) (hR : Right ts) :
    Calls Tryz.prog 190 #[.pointer (some ⟨rb, 0, none⟩), .string vb] w (Post rb w (clearP ts) (repCmd w.heap.size)) := by
  have H := Lib.hid (((St.start h hR (clearP ts)).alloc (cmdCells cmd0 (.slice none 0 0)) 29).alloc (cmdCells { cmd0 with kind := 1, verb := ⟨#[99, 108, 101, 97, 114]⟩, attr := -1 } (.slice none 0 0)) 29); clear h hR
  rw [size_one] at H
  go_enter Tryz.func190, Tryz.ntmps190
  by_cases hk : (hd ts).kind = 3
  · have H1 := Lib.hid (H.out.cast (if_pos hk)); clear H
    have hk' : ((hd ts).kind == 3) = true := by simpa using hk
    go_wp2_with (((with_reducible refine at_st (ty := 29) ?_); refine wpl_fresh (ty := 29) (cs := ?_) ?_ ?_ ?_ ?_ ?_ ?_; rotate_left; exact (by simp [World.size_alloc]; rfl); exact rfl; exact rfl; exact size29; exact rfl))
    refine St.next H1.out ?_
    intro w1 H2
    rw [hk]
    clear hk hk'
    go_wp2_with (first | (((with_reducible refine at_ld (ty := 29) ?_); refine wpl_load (ty := 29) (St.head H2.out) ?_ Tryz.underlying29 ?_ ?_ ?_; exact rfl; exact rfl; exact size29)) | (((with_reducible refine at_st (ty := 29) ?_); refine wpl_store (ty := 29) (cs := ?_) (St.second H2.out) ?_ ?_ ?_ ?_ ?_ ?_; rotate_left; exact rfl; exact rfl; exact rfl; exact size29; exact rfl)))
    exact St.fin H2.out 4 (fun _ _ => Or.inl ⟨rfl, rfl⟩) rfl rfl rfl
  · have H1 := Lib.hid (H.out.cast (if_neg hk)); clear H
    have hk' : ((hd ts).kind != 3) = true := by simpa using hk
    clear hk
    go_wp2_with (((with_reducible refine at_st (ty := 29) ?_); refine wpl_fresh (ty := 29) (cs := ?_) ?_ ?_ ?_ ?_ ?_ ?_; rotate_left; exact (by simp [World.size_alloc]; rfl); exact rfl; exact rfl; exact size29; exact rfl))
    refine St.next H1.out ?_
    intro w1 H2
    go_wp2_with fail
    refine H2.out.call (selection_any H2.out.rd H2.out.right) ?_ (by (intro p e w1 hr he; exact ⟨rfl, Post.mkErr hr he⟩))
    rintro l ts5 _ w5 _ ⟨bs, cap, rfl, hlo, hown⟩ H6
    have H7 := Lib.hid ((H2.out.push H6.out hlo hown).swap)
    have hlo' := Lib.hid (Nat.le_trans H2.out.ext.size hlo)
    clear hlo hown H6
    obtain ⟨u, hc, hf⟩ := H7.out.cellC 5 (by decide)
    have H8 := Lib.hid (H7.out.setC 5 (.slice (some ⟨bs, 0, none⟩) l.length cap) { cmd0 with kind := 1, verb := ⟨#[99, 108, 101, 97, 114]⟩, sel := l, attr := -1 } (.slice (some ⟨bs, 0, none⟩) l.length cap) (by decide) rfl)
    go_wp2_with fail
    refine H8.out.call (kind_any (-1) H8.out.rd H8.out.right) ?_ (by (intro p e w1 hr he; exact ⟨rfl, Post.mkErr hr he⟩))
    rintro a ts9 _ w9 _ rfl H9
    clear hc hf
    obtain ⟨u, hc, hf⟩ := H9.out.cellC 6 (by decide)
    have H10 := Lib.hid (H9.out.setC 6 (.int .i64 a) { cmd0 with kind := 1, verb := ⟨#[99, 108, 101, 97, 114]⟩, sel := l, attr := a } (.slice (some ⟨bs, 0, none⟩) l.length cap) (by decide) rfl)
    have H11 := Lib.hid H10.out.third_second
    go_wp2_with (first | (((with_reducible refine at_ld (ty := 29) ?_); refine wpl_load (ty := 29) (St.head H11.out) ?_ Tryz.underlying29 ?_ ?_ ?_; exact rfl; exact rfl; exact size29)) | (((with_reducible refine at_st (ty := 29) ?_); refine wpl_store (ty := 29) (cs := ?_) (St.second H11.out) ?_ ?_ ?_ ?_ ?_ ?_; rotate_left; exact rfl; exact rfl; exact rfl; exact size29; exact rfl)))
    exact St.fin H11.out 4 (fun _ hh => Or.inr ⟨_, _, rfl, hlo'.out, St.third hh⟩) rfl rfl rfl

end Go.Proofs.YtjojihadnplllaaGreatDoor
