/- The methods of grammar's reader that read a whole command: patch, set. -/
import Derived.Test.YtjojihadnplllaaGreatDoorCmD
namespace Go.Proofs.YtjojihadnplllaaGreatDoor
open Go.RowKit Go Go.Shelf Go.Proofs

def patchQ (f : Fix) (ph : Int) (ts : List Tok) : Res Cmd := .ok { cmd0 with kind := 5, verb := ⟨#[112, 97, 116, 99, 104]⟩, place := { f with phase := ph } } ts
def patchP (ts : List Tok) : Res Cmd :=
  (unitP ts).bind fun f ts1 => (profileP ts1).bind fun p ts2 => (needP [⟨#[97, 116]⟩] ts2).bind fun _ ts3 => (intP 8 ts3).bind fun u ts4 => (slashP ts4).bind fun _ ts5 => (intP 512 ts5).bind fun a ts6 =>
    (wordP [⟨#[112, 104, 97, 115, 101]⟩] ts6).bind fun z ts7 => (if z.toList.isEmpty = true then Res.ok 1 ts7 else intP 3 ts7).bind (patchQ { f with profile := p, universe_ := u, address := a })

set_option maxRecDepth 100000 in
set_option maxHeartbeats 4000000 in
theorem patch_any {rb : Nat} {ts : List Tok} {w : World} (vb : ByteArray) (h : Rd w rb ts) (hR : Right ts) :
    Calls Tryz.prog 194 #[.pointer (some ⟨rb, 0, none⟩), .string vb] w (Post rb w (patchP ts) (repCmd w.heap.size)) := by
  have H := Lib.hid ((St.start h hR (patchP ts)).alloc (cmdCells cmd0 (.slice none 0 0)) 29); clear h hR
  go_enter Tryz.func194, Tryz.ntmps194
  go_wp2_with fail
  refine H.out.call (unit_any H.out.rd H.out.right) ?_ (by (intro p e w1 hr he; exact ⟨rfl, Post.mkErr hr he⟩))
  rintro ⟨f1, f2, f3, f4, f5, f6, f7⟩ ts1 _ w1 _ rfl H0
  have H1 := Lib.hid (H0.out.alloc (fixCells ⟨f1, f2, f3, f4, f5, f6, f7⟩) 26)
  clear H0
  unfold fixCells
  go_wp2_with (((with_reducible refine at_st (ty := 26) ?_); refine wpl_fresh (ty := 26) (cs := ?_) ?_ ?_ ?_ ?_ ?_ ?_; rotate_left; exact rfl; exact rfl; exact rfl; exact size26; exact rfl))
  refine H1.out.call (profile_any H1.out.rd H1.out.right) ?_ (by (intro p e w1 hr he; exact ⟨rfl, Post.mkErr hr he⟩))
  rintro p ts2 _ w2 _ rfl H2
  have hc := H2.out.head.cell (k := 2) rfl
  have hf := H2.out.head.frozen (k := 2) (by show 2 < 7; decide)
  have H3 := Lib.hid (H2.out.set 2 (.string p) (vs' := fixCells ⟨f1, f2, p, f4, f5, f6, f7⟩) (by show 2 < 7; decide) rfl)
  go_wp2_with fail
  clear hc hf H2
  refine St.need [⟨#[97, 116]⟩] rfl (by decide) H3.out (by simp) ?_ (by (intro p e w1 hr he; exact ⟨rfl, Post.mkErr hr he⟩))
  intro s ts4 w4 _ H4
  go_wp2_with fail
  refine H4.out.call (int_any 8 H4.out.rd H4.out.right) ?_ (by (intro p e w1 hr he; exact ⟨rfl, Post.mkErr hr he⟩))
  rintro u ts5 _ w5 _ rfl H5
  have hc := H5.out.head.cell (k := 3) rfl
  have hf := H5.out.head.frozen (k := 3) (by show 3 < 7; decide)
  have H6 := Lib.hid (H5.out.set 3 (.int .i64 u) (vs' := fixCells ⟨f1, f2, p, u, f5, f6, f7⟩) (by show 3 < 7; decide) rfl)
  go_wp2_with fail
  clear hc hf H5
  refine H6.out.call (slash_any H6.out.rd H6.out.right) ?_ (by (intro p e w1 hr he; exact ⟨rfl, Post.mkErr hr he⟩))
  rintro _ ts7 _ w7 _ rfl H7
  go_wp2_with fail
  refine H7.out.call (int_any 512 H7.out.rd H7.out.right) ?_ (by (intro p e w1 hr he; exact ⟨rfl, Post.mkErr hr he⟩))
  rintro a ts8 _ w8 _ rfl H8
  have hc := H8.out.head.cell (k := 4) rfl
  have hf := H8.out.head.frozen (k := 4) (by show 4 < 7; decide)
  have hc2 := H8.out.head.cell (k := 5) rfl
  have hf2 := H8.out.head.frozen (k := 5) (by show 5 < 7; decide)
  have H9 := Lib.hid ((H8.out.set 4 (.int .i64 a) (vs' := fixCells ⟨f1, f2, p, u, a, f6, f7⟩) (by show 4 < 7; decide) rfl).set 5 (.int .i64 1) (vs' := [.int .i64 f1, .int .i64 f2, .string p, .int .i64 u, .int .i64 a, .int .i64 1, .string f7]) (by show 5 < 7; decide) rfl)
  go_wp2_with fail
  clear hc hf hc2 hf2 H8
  refine St.word [⟨#[112, 104, 97, 115, 101]⟩] rfl (by decide) H9.out (by simp) ?_ (by (intro p e w1 hr he; exact ⟨rfl, Post.mkErr hr he⟩))
  intro z ts10 w10 _ H10
  by_cases hp : z.toList.isEmpty = true
  · have H11 := Lib.hid (H10.out.cast (show _ = (Res.ok 1 ts10).bind (patchQ _) by rw [if_pos hp])); clear H10
    rw [Res.bind_ok] at H11
    unfold patchQ at H11
    go_wp2_with (first | (((with_reducible refine at_ld (ty := 26) ?_); refine wpl_load (ty := 26) (St.head H11.out) ?_ Tryz.underlying26 ?_ ?_ ?_; exact rfl; exact rfl; exact size26)) | (((with_reducible refine at_st (ty := 29) ?_); refine wpl_store (ty := 29) (cs := ?_) (St.second H11.out) ?_ ?_ ?_ ?_ ?_ ?_; rotate_left; exact rfl; exact rfl; exact rfl; exact size29; exact rfl)))
    have H12 := Lib.hid (H11.out.swap.setAll (cmdCells { cmd0 with kind := 5, verb := ⟨#[112, 97, 116, 99, 104]⟩, place := ⟨f1, f2, p, u, a, 1, f7⟩ } (.slice none 0 0)) rfl)
    refine ret_own H12.out.head 4 29 rfl rfl Tryz.underlying29 rfl size29 rfl ?_
    exact H12.out.done (repCmd_nil rfl rfl)
  · have H11 := Lib.hid (H10.out.cast (show _ = (intP 3 ts10).bind (patchQ _) by rw [if_neg hp])); clear H10
    have hp' : z.toList.isEmpty = false := by simpa using hp
    go_wp2_with fail
    refine H11.out.call (int_any 3 H11.out.rd H11.out.right) ?_ (by (intro p e w1 hr he; exact ⟨rfl, Post.mkErr hr he⟩))
    rintro ph ts12 _ w12 _ rfl H12
    unfold patchQ at H12
    have hc := H12.out.head.cell (k := 5) rfl
    have hf := H12.out.head.frozen (k := 5) (by show 5 < 7; decide)
    have H13 := Lib.hid (H12.out.set 5 (.int .i64 ph) (vs' := [.int .i64 f1, .int .i64 f2, .string p, .int .i64 u, .int .i64 a, .int .i64 ph, .string f7]) (by show 5 < 7; decide) rfl)
    go_wp2_with (first | (((with_reducible refine at_ld (ty := 26) ?_); refine wpl_load (ty := 26) (St.head H13.out) ?_ Tryz.underlying26 ?_ ?_ ?_; exact rfl; exact rfl; exact size26)) | (((with_reducible refine at_st (ty := 29) ?_); refine wpl_store (ty := 29) (cs := ?_) (St.second H13.out) ?_ ?_ ?_ ?_ ?_ ?_; rotate_left; exact rfl; exact rfl; exact rfl; exact size29; exact rfl)))
    have H14 := Lib.hid (H13.out.swap.setAll (cmdCells { cmd0 with kind := 5, verb := ⟨#[112, 97, 116, 99, 104]⟩, place := ⟨f1, f2, p, u, a, ph, f7⟩ } (.slice none 0 0)) rfl)
    refine ret_own H14.out.head 4 29 rfl rfl Tryz.underlying29 rfl size29 rfl ?_
    exact H14.out.done (repCmd_nil rfl rfl)

def setV (c : Cmd) (ts : List Tok) : Res Cmd := (timeP ts).bind fun t ts1 => .ok { c with time := t } ts1
def setQ (c : Cmd) (s : ByteArray) (ts4 : List Tok) : Res Cmd :=
  if s = ⟨#[112, 97, 108, 101, 116, 116, 101]⟩ then (listP ts4).bind fun n ts5 => setV { c with palette := n } ts5
  else if s = ⟨#[104, 111, 109, 101]⟩ then setV { c with palette := -1 } ts4
  else if 15 ≤ c.attr then .err (hd ts4).pos 4
  else (levelP ts4).bind fun v ts5 => setV { c with level := v } ts5
def setP (ts : List Tok) : Res Cmd :=
  (selectionP ts).bind fun l ts1 => (kindP 0 ts1).bind fun a ts2 => (needP [⟨#[97, 116]⟩] ts2).bind fun _ ts3 => (wordP [⟨#[112, 97, 108, 101, 116, 116, 101]⟩, ⟨#[104, 111, 109, 101]⟩] ts3).bind (setQ { cmd0 with kind := 0, verb := ⟨#[97, 116]⟩, sel := l, attr := a })

set_option maxRecDepth 100000 in
set_option maxHeartbeats 4000000 in
theorem set_any {rb : Nat} {ts : List Tok} {w : World} (h : Rd w rb ts) (hR : Right ts) :
    Calls Tryz.prog 95 #[.pointer (some ⟨rb, 0, none⟩)] w (Post rb w (setP ts) (repCmd w.heap.size)) := by
  have H := Lib.hid ((St.start h hR (setP ts)).alloc (cmdCells cmd0 (.slice none 0 0)) 29); clear h hR
  go_enter Tryz.func95, Tryz.ntmps95
  go_wp2_with fail
  refine H.out.call (selection_any H.out.rd H.out.right) ?_ (by (intro p e w1 hr he; exact ⟨rfl, Post.mkErr hr he⟩))
  rintro l ts1 _ w1 _ ⟨bs, cap, rfl, hlo, hown⟩ H1
  have H2 := Lib.hid (H.out.push H1.out hlo hown)
  have hlo' := Lib.hid (Nat.le_trans H.out.ext.size hlo)
  clear hlo hown H1
  go_wp2_with fail
  refine H2.out.call (kind_any 0 H2.out.rd H2.out.right) ?_ (by (intro p e w1 hr he; exact ⟨rfl, Post.mkErr hr he⟩))
  rintro a ts3 _ w3 _ rfl H3
  have H4 := Lib.hid ((H3.out.alloc (cmdCells { cmd0 with kind := 0, verb := ⟨#[97, 116]⟩, sel := l, attr := a } (.slice (some ⟨bs, 0, none⟩) l.length cap)) 29).third_second)
  clear H H2 H3
  go_wp2_with (((with_reducible refine at_st (ty := 29) ?_); refine wpl_fresh (ty := 29) (cs := ?_) ?_ ?_ ?_ ?_ ?_ ?_; rotate_left; exact rfl; exact rfl; exact rfl; exact size29; exact rfl))
  refine St.need [⟨#[97, 116]⟩] rfl (by decide) H4.out (by simp) ?_ (by (intro p e w1 hr he; exact ⟨rfl, Post.mkErr hr he⟩))
  intro _ ts5 w5 _ H5
  go_wp2_with fail
  refine St.word [⟨#[112, 97, 108, 101, 116, 116, 101]⟩, ⟨#[104, 111, 109, 101]⟩] rfl (by decide) H5.out (by simp) ?_ (by (intro p e w1 hr he; exact ⟨rfl, Post.mkErr hr he⟩))
  intro s ts6 w6 hs H6
  simp only [List.mem_cons, List.not_mem_nil, or_false] at hs
  clear H4 H5
  rcases hs with (rfl | rfl) | rfl
  · have H7 := Lib.hid (H6.out.cast (if_pos (by trivial))); clear H6
    go_wp2_with fail
    refine H7.out.call (list_any H7.out.rd H7.out.right) ?_ (by (intro p e w1 hr he; exact ⟨rfl, Post.mkErr hr he⟩))
    rintro n ts8 _ w8 _ rfl H8
    obtain ⟨u, hc, hf⟩ := H8.out.cellC 8 (by decide)
    have H9 := Lib.hid (H8.out.setC 8 (.int .i64 n) { cmd0 with kind := 0, verb := ⟨#[97, 116]⟩, sel := l, attr := a, palette := n } (.slice (some ⟨bs, 0, none⟩) l.length cap) (by decide) rfl)
    unfold setV at H9
    go_wp2_with fail
    refine H9.out.call (time_any H9.out.rd H9.out.right) ?_ (by (intro p e w1 hr he; exact ⟨rfl, Post.mkErr hr he⟩))
    rintro t ts10 _ w10 _ rfl H10
    clear hc hf
    obtain ⟨u, hc, hf⟩ := H10.out.cellC 9 (by decide)
    have H11 := Lib.hid (H10.out.setC 9 (.int .i64 t) { cmd0 with kind := 0, verb := ⟨#[97, 116]⟩, sel := l, attr := a, palette := n, time := t } (.slice (some ⟨bs, 0, none⟩) l.length cap) (by decide) rfl)
    go_wp2_with (first | (((with_reducible refine at_ld (ty := 29) ?_); refine wpl_load (ty := 29) (St.head H11.out) ?_ Tryz.underlying29 ?_ ?_ ?_; exact rfl; exact rfl; exact size29)) | (((with_reducible refine at_st (ty := 29) ?_); refine wpl_store (ty := 29) (cs := ?_) (St.second H11.out) ?_ ?_ ?_ ?_ ?_ ?_; rotate_left; exact rfl; exact rfl; exact rfl; exact size29; exact rfl)))
    exact St.fin H11.out 2 (fun _ hh => Or.inr ⟨_, _, rfl, hlo'.out, St.third hh⟩) rfl rfl rfl
  · have H7 := Lib.hid (H6.out.cast ((if_neg (by decide)).trans (if_pos (by trivial)))); clear H6
    obtain ⟨u, hc, hf⟩ := H7.out.cellC 8 (by decide)
    have H9 := Lib.hid (H7.out.setC 8 (.int .i64 (-1)) { cmd0 with kind := 0, verb := ⟨#[97, 116]⟩, sel := l, attr := a, palette := -1 } (.slice (some ⟨bs, 0, none⟩) l.length cap) (by decide) rfl)
    unfold setV at H9
    go_wp2_with fail
    refine H9.out.call (time_any H9.out.rd H9.out.right) ?_ (by (intro p e w1 hr he; exact ⟨rfl, Post.mkErr hr he⟩))
    rintro t ts10 _ w10 _ rfl H10
    clear hc hf
    obtain ⟨u, hc, hf⟩ := H10.out.cellC 9 (by decide)
    have H11 := Lib.hid (H10.out.setC 9 (.int .i64 t) { cmd0 with kind := 0, verb := ⟨#[97, 116]⟩, sel := l, attr := a, palette := -1, time := t } (.slice (some ⟨bs, 0, none⟩) l.length cap) (by decide) rfl)
    go_wp2_with (first | (((with_reducible refine at_ld (ty := 29) ?_); refine wpl_load (ty := 29) (St.head H11.out) ?_ Tryz.underlying29 ?_ ?_ ?_; exact rfl; exact rfl; exact size29)) | (((with_reducible refine at_st (ty := 29) ?_); refine wpl_store (ty := 29) (cs := ?_) (St.second H11.out) ?_ ?_ ?_ ?_ ?_ ?_; rotate_left; exact rfl; exact rfl; exact rfl; exact size29; exact rfl)))
    exact St.fin H11.out 2 (fun _ hh => Or.inr ⟨_, _, rfl, hlo'.out, St.third hh⟩) rfl rfl rfl
  · have H7 := Lib.hid (H6.out.cast ((if_neg (by decide)).trans (if_neg (by decide)))); clear H6
    have ha := H7.out.head.cell (k := 6) rfl
    by_cases h15 : 15 ≤ a
    · have H8 := Lib.hid (H7.out.cast (if_pos h15))
      go_wp2_with fail
      exact St.fail H8.out (by (intro p e w1 hr he; exact ⟨rfl, Post.mkErr hr he⟩))
    · have H8 := Lib.hid (H7.out.cast (if_neg h15))
      go_wp2_with fail
      refine H8.out.call (level_any H8.out.rd H8.out.right) ?_ (by (intro p e w1 hr he; exact ⟨rfl, Post.mkErr hr he⟩))
      rintro v ts9 _ w9 _ rfl H9
      clear ha
      obtain ⟨u, hc, hf⟩ := H9.out.cellC 7 (by decide)
      have H10 := Lib.hid (H9.out.setC 7 (.int .i64 v) { cmd0 with kind := 0, verb := ⟨#[97, 116]⟩, sel := l, attr := a, level := v } (.slice (some ⟨bs, 0, none⟩) l.length cap) (by decide) rfl)
      unfold setV at H10
      go_wp2_with fail
      refine H10.out.call (time_any H10.out.rd H10.out.right) ?_ (by (intro p e w1 hr he; exact ⟨rfl, Post.mkErr hr he⟩))
      rintro t ts11 _ w11 _ rfl H11
      clear hc hf
      obtain ⟨u, hc, hf⟩ := H11.out.cellC 9 (by decide)
      have H12 := Lib.hid (H11.out.setC 9 (.int .i64 t) { cmd0 with kind := 0, verb := ⟨#[97, 116]⟩, sel := l, attr := a, level := v, time := t } (.slice (some ⟨bs, 0, none⟩) l.length cap) (by decide) rfl)
      go_wp2_with (first | (((with_reducible refine at_ld (ty := 29) ?_); refine wpl_load (ty := 29) (St.head H12.out) ?_ Tryz.underlying29 ?_ ?_ ?_; exact rfl; exact rfl; exact size29)) | (((with_reducible refine at_st (ty := 29) ?_); refine wpl_store (ty := 29) (cs := ?_) (St.second H12.out) ?_ ?_ ?_ ?_ ?_ ?_; rotate_left; exact rfl; exact rfl; exact rfl; exact size29; exact rfl)))
      exact St.fin H12.out 2 (fun _ hh => Or.inr ⟨_, _, rfl, hlo'.out, St.third hh⟩) rfl rfl rfl

end Go.Proofs.YtjojihadnplllaaGreatDoor
