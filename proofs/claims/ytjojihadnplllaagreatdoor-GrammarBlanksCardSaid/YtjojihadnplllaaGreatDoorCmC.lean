/- The methods of grammar's reader that read a whole command: place, update, effect, play, remove. -/
import Derived.Test.YtjojihadnplllaaGreatDoorCmB
namespace Go.Proofs.YtjojihadnplllaaGreatDoor
open Go.RowKit Go Go.Shelf Go.Proofs

theorem Res.bind_assoc {α β γ : Type} (r : Res α) (f : α → List Tok → Res β) (g : β → List Tok → Res γ) : (r.bind f).bind g = r.bind fun a ts => (f a ts).bind g := by
  cases r <;> rfl

def placeP (ts : List Tok) : Res (Int × ByteArray) :=
  (listP ts).bind fun n ts1 => (slashP ts1).bind fun _ ts2 => (cueP ts2).bind fun s ts3 => .ok (n, s) ts3

section
variable {rb : Nat} {w0 w : World} {p0 : Res Cmd} {ts : List Tok} {own : List (Nat × List Value)} {c : Nat} {cm : Cmd} {sv : Value}
set_option maxRecDepth 100000 in
set_option maxHeartbeats 4000000 in
theorem place_any {k : Int × ByteArray → List Tok → Res Cmd} (h : St rb w0 p0 ((placeP ts).bind k) ts ((c, cmdCells cm sv) :: own) w) :
    Calls Tryz.prog 268 #[.pointer (some ⟨rb, 0, none⟩), .pointer (some ⟨c, 0, none⟩)] w fun e w' =>
      (∃ n s ts1, e = .returned (.tuple #[]) ∧ St rb w0 p0 (k (n, s) ts1) ts1 ((c, cmdCells { cm with list := n, number := s } sv) :: own) w') ∨ (∃ p er, e = failE p er ∧ p0 = .err p er ∧ Ext rb w0 w') := by
  have H := Lib.hid (h.cast (show (placeP ts).bind k = (listP ts).bind fun n ts1 => (slashP ts1).bind fun _ ts2 => (cueP ts2).bind fun s ts3 => k (n, s) ts3 by
    unfold placeP; rw [Res.bind_assoc]; congr 1; funext n ts1; rw [Res.bind_assoc]; congr 1; funext _ ts2; rw [Res.bind_assoc]; rfl))
  clear h
  go_enter Tryz.func268, Tryz.ntmps268
  go_wp2_with fail
  refine H.out.call (list_any H.out.rd H.out.right) ?_ (by intro p e w1 hr he; exact ⟨rfl, Or.inr ⟨p, e, rfl, hr, he⟩⟩)
  rintro n ts1 _ w1 _ rfl H1
  obtain ⟨u, hc, hf⟩ := H1.out.cellC 4 (by decide)
  have H2 := Lib.hid (H1.out.setC 4 (.int .i64 n) { cm with list := n } sv (by decide) rfl)
  go_wp2_with fail
  refine H2.out.call (slash_any H2.out.rd H2.out.right) ?_ (by intro p e w1 hr he; exact ⟨rfl, Or.inr ⟨p, e, rfl, hr, he⟩⟩)
  rintro _ ts2 _ w2 _ rfl H3
  clear hc hf
  go_wp2_with fail
  refine H3.out.call (cue_any H3.out.rd H3.out.right) ?_ (by intro p e w1 hr he; exact ⟨rfl, Or.inr ⟨p, e, rfl, hr, he⟩⟩)
  rintro s ts3 _ w3 _ rfl H4
  obtain ⟨u, hc, hf⟩ := H4.out.cellC 3 (by decide)
  have H5 := Lib.hid (H4.out.setC 3 (.string s) { cm with list := n, number := s } sv (by decide) rfl)
  go_wp2_with fail
  go_end0
  exact Or.inl ⟨n, s, ts3, rfl, H5.out⟩
theorem St.place {k : Int × ByteArray → List Tok → Res Cmd} {R : Ending → World → Prop} (h : St rb w0 p0 ((placeP ts).bind k) ts ((c, cmdCells cm sv) :: own) w)
    (hok : ∀ n s ts1 w1, Hid (St rb w0 p0 (k (n, s) ts1) ts1 ((c, cmdCells { cm with list := n, number := s } sv) :: own) w1) → R (.returned (.tuple #[])) w1)
    (herr : ∀ p e w1, p0 = .err p e → Ext rb w0 w1 → R (failE p e) w1) : Calls Tryz.prog 268 #[.pointer (some ⟨rb, 0, none⟩), .pointer (some ⟨c, 0, none⟩)] w R :=
  (place_any h).mono fun e w' hh => by
    rcases hh with ⟨n, s, ts1, rfl, h1⟩ | ⟨p, er, rfl, h1, h2⟩
    · exact hok n s ts1 w' (Lib.hid h1)
    · exact herr p er w' h1 h2
end

def updateP (ts : List Tok) : Res Cmd :=
  (needP [⟨#[99, 117, 101]⟩] ts).bind fun o ts1 => (placeP ts1).bind fun x ts2 => .ok { cmd0 with kind := 3, verb := ⟨#[117, 112, 100, 97, 116, 101]⟩, object := o, list := x.1, number := x.2 } ts2

set_option maxRecDepth 100000 in
set_option maxHeartbeats 4000000 in
theorem update_any {rb : Nat} {ts : List Tok} {w : World} (vb : ByteArray) (h : Rd w rb ts) (hR : Right ts) :
    Calls Tryz.prog 192 #[.pointer (some ⟨rb, 0, none⟩), .string vb] w (Post rb w (updateP ts) (repCmd w.heap.size)) := by
  have H := Lib.hid ((St.start h hR (updateP ts)).alloc (cmdCells cmd0 (.slice none 0 0)) 29); clear h hR
  go_enter Tryz.func192, Tryz.ntmps192
  go_wp2_with fail
  refine St.need [⟨#[99, 117, 101]⟩] rfl (by decide) H.out (by simp) ?_ (by (intro p e w1 hr he; exact ⟨rfl, Post.mkErr hr he⟩))
  intro s tsH1 wH1 _ H1
  have H2 := Lib.hid (H1.out.alloc (cmdCells { cmd0 with kind := 3, verb := ⟨#[117, 112, 100, 97, 116, 101]⟩, object := s } (.slice none 0 0)) 29)
  go_wp2_with (((with_reducible refine at_st (ty := 29) ?_); refine wpl_fresh (ty := 29) (cs := ?_) ?_ ?_ ?_ ?_ ?_ ?_; rotate_left; exact rfl; exact rfl; exact rfl; exact size29; exact rfl))
  refine H2.out.place ?_ (by (intro p e w1 hr he; exact ⟨rfl, Post.mkErr hr he⟩))
  intro n x ts3 w3 H3
  go_wp2_with (first | (((with_reducible refine at_ld (ty := 29) ?_); refine wpl_load (ty := 29) (St.head H3.out) ?_ Tryz.underlying29 ?_ ?_ ?_; exact rfl; exact rfl; exact size29)) | (((with_reducible refine at_st (ty := 29) ?_); refine wpl_store (ty := 29) (cs := ?_) (St.second H3.out) ?_ ?_ ?_ ?_ ?_ ?_; rotate_left; exact rfl; exact rfl; exact rfl; exact size29; exact rfl)))
  exact St.fin H3.out 4 (fun _ _ => Or.inl ⟨rfl, rfl⟩) rfl rfl rfl

def effectQ (verb : ByteArray) (n : Int) (ts1 : List Tok) : Res Cmd :=
  (needP [⟨#[111, 110]⟩, ⟨#[97, 116]⟩] ts1).bind fun s ts2 =>
    if s = ⟨#[111, 110]⟩ then (selectionP ts2).bind fun l ts3 => .ok { cmd0 with kind := 8, verb := verb, list := n, sel := l } ts3
    else (intP 400 ts2).bind fun v ts3 => .ok { cmd0 with kind := 8, verb := ⟨#[115, 112, 101, 101, 100]⟩, list := n, level := v } ts3
def effectP (verb : ByteArray) (ts : List Tok) : Res Cmd :=
  (listP ts).bind fun n ts1 => if verb.toList = [115, 116, 111, 112] then .ok { cmd0 with kind := 8, verb := verb, list := n } ts1 else effectQ verb n ts1

set_option maxRecDepth 100000 in
set_option maxHeartbeats 4000000 in
theorem effect_any {rb : Nat} {ts : List Tok} {w : World} (vb : ByteArray) (h : Rd w rb ts) (hR : Right ts) :
    Calls Tryz.prog 199 #[.pointer (some ⟨rb, 0, none⟩), .string vb] w (Post rb w (effectP vb ts) (repCmd w.heap.size)) := by
  have H := Lib.hid ((St.start h hR (effectP vb ts)).alloc (cmdCells cmd0 (.slice none 0 0)) 29); clear h hR
  go_enter Tryz.func199, Tryz.ntmps199
  go_wp2_with fail
  refine H.out.call (list_any H.out.rd H.out.right) ?_ (by (intro p e w1 hr he; exact ⟨rfl, Post.mkErr hr he⟩))
  rintro n ts1 _ w1 _ rfl H1
  have H2 := Lib.hid (H1.out.alloc (cmdCells { cmd0 with kind := 8, verb := vb, list := n } (.slice none 0 0)) 29)
  clear H1
  by_cases hv : vb.toList = [115, 116, 111, 112]
  · have H3 := Lib.hid (H2.out.cast (if_pos hv))
    have hv' : (vb.toList == [115, 116, 111, 112]) = true := by rw [hv]; rfl
    clear hv H2
    go_wp2_with (first | (((with_reducible refine at_st (ty := 29) ?_); refine wpl_fresh (ty := 29) (cs := ?_) ?_ ?_ ?_ ?_ ?_ ?_; rotate_left; exact rfl; exact rfl; exact rfl; exact size29; exact rfl)) | (((with_reducible refine at_ld (ty := 29) ?_); refine wpl_load (ty := 29) (St.head H3.out) ?_ Tryz.underlying29 ?_ ?_ ?_; exact rfl; exact rfl; exact size29)) | (((with_reducible refine at_st (ty := 29) ?_); refine wpl_store (ty := 29) (cs := ?_) (St.second H3.out) ?_ ?_ ?_ ?_ ?_ ?_; rotate_left; exact rfl; exact rfl; exact rfl; exact size29; exact rfl)))
    exact St.fin H3.out 4 (fun _ _ => Or.inl ⟨rfl, rfl⟩) rfl rfl rfl
  · have H3 := Lib.hid (H2.out.cast (show _ = effectQ vb n ts1 from if_neg hv))
    have hv' : (vb.toList == [115, 116, 111, 112]) = false := by simpa using hv
    clear hv H2
    unfold effectQ at H3
    go_wp2_with (((with_reducible refine at_st (ty := 29) ?_); refine wpl_fresh (ty := 29) (cs := ?_) ?_ ?_ ?_ ?_ ?_ ?_; rotate_left; exact rfl; exact rfl; exact rfl; exact size29; exact rfl))
    refine St.need [⟨#[111, 110]⟩, ⟨#[97, 116]⟩] rfl (by decide) H3.out (by simp) ?_ (by (intro p e w1 hr he; exact ⟨rfl, Post.mkErr hr he⟩))
    intro s tsH4 wH4 hs H4
    simp only [List.mem_cons, List.not_mem_nil, or_false] at hs
    rcases hs with rfl | rfl
    · have H5 := Lib.hid (H4.out.cast (if_pos rfl)); clear H4 H3
      go_wp2_with fail
      refine H5.out.call (selection_any H5.out.rd H5.out.right) ?_ (by (intro p e w1 hr he; exact ⟨rfl, Post.mkErr hr he⟩))
      rintro l ts5 _ w5 _ ⟨bs, cap, rfl, hlo, hown⟩ H6
      have H7 := Lib.hid ((H5.out.push H6.out hlo hown).swap)
      have hlo' := Lib.hid (Nat.le_trans H5.out.ext.size hlo)
      clear hlo hown H6
      obtain ⟨u, hc, hf⟩ := H7.out.cellC 5 (by decide)
      have H8 := Lib.hid (H7.out.setC 5 (.slice (some ⟨bs, 0, none⟩) l.length cap) { cmd0 with kind := 8, verb := vb, list := n, sel := l } (.slice (some ⟨bs, 0, none⟩) l.length cap) (by decide) rfl)
      have H9 := Lib.hid H8.out.third_second
      go_wp2_with (first | (((with_reducible refine at_ld (ty := 29) ?_); refine wpl_load (ty := 29) (St.head H9.out) ?_ Tryz.underlying29 ?_ ?_ ?_; exact rfl; exact rfl; exact size29)) | (((with_reducible refine at_st (ty := 29) ?_); refine wpl_store (ty := 29) (cs := ?_) (St.second H9.out) ?_ ?_ ?_ ?_ ?_ ?_; rotate_left; exact rfl; exact rfl; exact rfl; exact size29; exact rfl)))
      exact St.fin H9.out 4 (fun _ hh => Or.inr ⟨_, _, rfl, hlo'.out, St.third hh⟩) rfl rfl rfl
    · have H5 := Lib.hid (H4.out.cast (if_neg (by decide))); clear H4 H3
      go_wp2_with fail
      refine H5.out.call (int_any _ H5.out.rd H5.out.right) ?_ (by (intro p e w1 hr he; exact ⟨rfl, Post.mkErr hr he⟩))
      rintro v ts5 _ w5 _ rfl H6
      obtain ⟨u, hc, hf⟩ := H6.out.cellC 1 (by decide)
      obtain ⟨u, hc', hf'⟩ := H6.out.cellC 7 (by decide)
      have H7 := Lib.hid ((H6.out.setC 1 (.string ⟨#[115, 112, 101, 101, 100]⟩) { cmd0 with kind := 8, verb := ⟨#[115, 112, 101, 101, 100]⟩, list := n } (.slice none 0 0) (by decide) rfl).setC 7 (.int .i64 v) { cmd0 with kind := 8, verb := ⟨#[115, 112, 101, 101, 100]⟩, list := n, level := v } (.slice none 0 0) (by decide) rfl)
      go_wp2_with (first | (((with_reducible refine at_ld (ty := 29) ?_); refine wpl_load (ty := 29) (St.head H7.out) ?_ Tryz.underlying29 ?_ ?_ ?_; exact rfl; exact rfl; exact size29)) | (((with_reducible refine at_st (ty := 29) ?_); refine wpl_store (ty := 29) (cs := ?_) (St.second H7.out) ?_ ?_ ?_ ?_ ?_ ?_; rotate_left; exact rfl; exact rfl; exact rfl; exact size29; exact rfl)))
      exact St.fin H7.out 4 (fun _ _ => Or.inl ⟨rfl, rfl⟩) rfl rfl rfl

def playP (verb : ByteArray) (ts : List Tok) : Res Cmd :=
  (listP ts).bind fun n ts1 =>
    if verb.toList = [103, 111, 116, 111] then (needP [⟨#[99, 117, 101]⟩] ts1).bind fun _ ts2 => (cueP ts2).bind fun s ts3 => .ok { cmd0 with kind := 6, verb := verb, list := n, number := s } ts3
    else if verb.toList = [114, 97, 116, 101] then (needP [⟨#[97, 116]⟩] ts1).bind fun _ ts2 => (intP 400 ts2).bind fun v ts3 => .ok { cmd0 with kind := 6, verb := verb, list := n, level := v } ts3
    else if verb.toList = [114, 101, 108, 101, 97, 115, 101] then (timeP ts1).bind fun t ts2 => .ok { cmd0 with kind := 6, verb := verb, list := n, time := t } ts2
    else .ok { cmd0 with kind := 6, verb := verb, list := n } ts1

set_option maxRecDepth 100000 in
set_option maxHeartbeats 4000000 in
theorem play_any {rb : Nat} {ts : List Tok} {w : World} (vb : ByteArray) (h : Rd w rb ts) (hR : Right ts) :
    Calls Tryz.prog 197 #[.pointer (some ⟨rb, 0, none⟩), .string vb] w (Post rb w (playP vb ts) (repCmd w.heap.size)) := by
  have H := Lib.hid ((St.start h hR (playP vb ts)).alloc (cmdCells cmd0 (.slice none 0 0)) 29); clear h hR
  go_enter Tryz.func197, Tryz.ntmps197
  go_wp2_with fail
  refine H.out.call (list_any H.out.rd H.out.right) ?_ (by (intro p e w1 hr he; exact ⟨rfl, Post.mkErr hr he⟩))
  rintro n ts1 _ w1 _ rfl H1
  have H2 := Lib.hid (H1.out.alloc (cmdCells { cmd0 with kind := 6, verb := vb, list := n } (.slice none 0 0)) 29)
  clear H1
  by_cases hv : vb.toList = [103, 111, 116, 111]
  · have H3 := Lib.hid (H2.out.cast (if_pos hv))
    have hv' : (vb.toList == [103, 111, 116, 111]) = true := by rw [hv]; rfl
    clear hv H2
    go_wp2_with (((with_reducible refine at_st (ty := 29) ?_); refine wpl_fresh (ty := 29) (cs := ?_) ?_ ?_ ?_ ?_ ?_ ?_; rotate_left; exact rfl; exact rfl; exact rfl; exact size29; exact rfl))
    refine St.need [⟨#[99, 117, 101]⟩] rfl (by decide) H3.out (by simp) ?_ (by (intro p e w1 hr he; exact ⟨rfl, Post.mkErr hr he⟩))
    intro s tsH4 wH4 _ H4
    go_wp2_with fail
    refine H4.out.call (cue_any H4.out.rd H4.out.right) ?_ (by (intro p e w1 hr he; exact ⟨rfl, Post.mkErr hr he⟩))
    rintro x tsH5 _ wH5 _ rfl H5a
    obtain ⟨uH5, hcH5, hfH5⟩ := H5a.out.cellC 3 (by decide)
    have H5 := Lib.hid (H5a.out.setC 3 (.string x) { cmd0 with kind := 6, verb := vb, list := n, number := x } (.slice none 0 0) (by decide) rfl)
    go_wp2_with (first | (((with_reducible refine at_ld (ty := 29) ?_); refine wpl_load (ty := 29) (St.head H5.out) ?_ Tryz.underlying29 ?_ ?_ ?_; exact rfl; exact rfl; exact size29)) | (((with_reducible refine at_st (ty := 29) ?_); refine wpl_store (ty := 29) (cs := ?_) (St.second H5.out) ?_ ?_ ?_ ?_ ?_ ?_; rotate_left; exact rfl; exact rfl; exact rfl; exact size29; exact rfl)))
    exact St.fin H5.out 4 (fun _ _ => Or.inl ⟨rfl, rfl⟩) rfl rfl rfl
  · have H2' := Lib.hid (H2.out.cast (if_neg hv))
    have hv' : (vb.toList == [103, 111, 116, 111]) = false := by simpa using hv
    clear hv H2
    by_cases hv : vb.toList = [114, 97, 116, 101]
    · have H3 := Lib.hid (H2'.out.cast (if_pos hv))
      have hv2 : (vb.toList == [114, 97, 116, 101]) = true := by rw [hv]; rfl
      clear hv H2'
      go_wp2_with (((with_reducible refine at_st (ty := 29) ?_); refine wpl_fresh (ty := 29) (cs := ?_) ?_ ?_ ?_ ?_ ?_ ?_; rotate_left; exact rfl; exact rfl; exact rfl; exact size29; exact rfl))
      refine St.need [⟨#[97, 116]⟩] rfl (by decide) H3.out (by simp) ?_ (by (intro p e w1 hr he; exact ⟨rfl, Post.mkErr hr he⟩))
      intro s tsH4 wH4 _ H4
      go_wp2_with fail
      refine H4.out.call (int_any 400 H4.out.rd H4.out.right) ?_ (by (intro p e w1 hr he; exact ⟨rfl, Post.mkErr hr he⟩))
      rintro x tsH5 _ wH5 _ rfl H5a
      obtain ⟨uH5, hcH5, hfH5⟩ := H5a.out.cellC 7 (by decide)
      have H5 := Lib.hid (H5a.out.setC 7 (.int .i64 x) { cmd0 with kind := 6, verb := vb, list := n, level := x } (.slice none 0 0) (by decide) rfl)
      go_wp2_with (first | (((with_reducible refine at_ld (ty := 29) ?_); refine wpl_load (ty := 29) (St.head H5.out) ?_ Tryz.underlying29 ?_ ?_ ?_; exact rfl; exact rfl; exact size29)) | (((with_reducible refine at_st (ty := 29) ?_); refine wpl_store (ty := 29) (cs := ?_) (St.second H5.out) ?_ ?_ ?_ ?_ ?_ ?_; rotate_left; exact rfl; exact rfl; exact rfl; exact size29; exact rfl)))
      exact St.fin H5.out 4 (fun _ _ => Or.inl ⟨rfl, rfl⟩) rfl rfl rfl
    · have H2'' := Lib.hid (H2'.out.cast (if_neg hv))
      have hv2 : (vb.toList == [114, 97, 116, 101]) = false := by simpa using hv
      clear hv H2'
      by_cases hv : vb.toList = [114, 101, 108, 101, 97, 115, 101]
      · have H3 := Lib.hid (H2''.out.cast (if_pos hv))
        have hv3 : (vb.toList == [114, 101, 108, 101, 97, 115, 101]) = true := by rw [hv]; rfl
        clear hv H2''
        go_wp2_with (((with_reducible refine at_st (ty := 29) ?_); refine wpl_fresh (ty := 29) (cs := ?_) ?_ ?_ ?_ ?_ ?_ ?_; rotate_left; exact rfl; exact rfl; exact rfl; exact size29; exact rfl))
        refine H3.out.call (time_any H3.out.rd H3.out.right) ?_ (by (intro p e w1 hr he; exact ⟨rfl, Post.mkErr hr he⟩))
        rintro x tsH5 _ wH5 _ rfl H5a
        obtain ⟨uH5, hcH5, hfH5⟩ := H5a.out.cellC 9 (by decide)
        have H5 := Lib.hid (H5a.out.setC 9 (.int .i64 x) { cmd0 with kind := 6, verb := vb, list := n, time := x } (.slice none 0 0) (by decide) rfl)
        go_wp2_with (first | (((with_reducible refine at_ld (ty := 29) ?_); refine wpl_load (ty := 29) (St.head H5.out) ?_ Tryz.underlying29 ?_ ?_ ?_; exact rfl; exact rfl; exact size29)) | (((with_reducible refine at_st (ty := 29) ?_); refine wpl_store (ty := 29) (cs := ?_) (St.second H5.out) ?_ ?_ ?_ ?_ ?_ ?_; rotate_left; exact rfl; exact rfl; exact rfl; exact size29; exact rfl)))
        exact St.fin H5.out 4 (fun _ _ => Or.inl ⟨rfl, rfl⟩) rfl rfl rfl
      · have H3 := Lib.hid (H2''.out.cast (if_neg hv))
        have hv3 : (vb.toList == [114, 101, 108, 101, 97, 115, 101]) = false := by simpa using hv
        clear hv H2''
        go_wp2_with (first | (((with_reducible refine at_st (ty := 29) ?_); refine wpl_fresh (ty := 29) (cs := ?_) ?_ ?_ ?_ ?_ ?_ ?_; rotate_left; exact rfl; exact rfl; exact rfl; exact size29; exact rfl)) | (((with_reducible refine at_ld (ty := 29) ?_); refine wpl_load (ty := 29) (St.head H3.out) ?_ Tryz.underlying29 ?_ ?_ ?_; exact rfl; exact rfl; exact size29)) | (((with_reducible refine at_st (ty := 29) ?_); refine wpl_store (ty := 29) (cs := ?_) (St.second H3.out) ?_ ?_ ?_ ?_ ?_ ?_; rotate_left; exact rfl; exact rfl; exact rfl; exact size29; exact rfl)))
        exact St.fin H3.out 4 (fun _ _ => Or.inl ⟨rfl, rfl⟩) rfl rfl rfl

end Go.Proofs.YtjojihadnplllaaGreatDoor
