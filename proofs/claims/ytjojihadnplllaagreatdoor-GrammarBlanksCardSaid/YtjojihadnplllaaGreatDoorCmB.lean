/- The methods of grammar's reader that read a whole command: undo, blackout, fader, effect. -/
import Derived.Test.YtjojihadnplllaaGreatDoorRdE
namespace Go.Proofs.YtjojihadnplllaaGreatDoor
open Go.RowKit Go Go.Shelf Go.Proofs

/-- A command. -/
structure Cmd where
  kind : Int
  verb : ByteArray
  object : ByteArray
  number : ByteArray
  list : Int
  sel : List Sel
  attr : Int
  level : Int
  palette : Int
  time : Int
  flags : Int
  place : Fix
def cmd0 : Cmd := ⟨0, ⟨#[]⟩, ⟨#[]⟩, ⟨#[]⟩, 0, [], 0, 0, 0, 0, 0, fix0⟩
/-- A command's cells, its selection's value given. -/
def cmdCells (c : Cmd) (sv : Value) : List Value :=
  [.int .i64 c.kind, .string c.verb, .string c.object, .string c.number, .int .i64 c.list, sv, .int .i64 c.attr, .int .i64 c.level, .int .i64 c.palette, .int .i64 c.time, .int .i64 c.flags,
    .int .i64 c.place.channel, .int .i64 c.place.part, .string c.place.profile, .int .i64 c.place.universe_, .int .i64 c.place.address, .int .i64 c.place.phase, .string c.place.cable, .slice none 0 0]
def nilV : Value := .slice none 0 0
def selIs (lo : Nat) (l : List Sel) (w : World) (sv : Value) : Prop := (l = [] ∧ sv = .slice none 0 0) ∨ repSels lo l w sv
/-- A command as a value. -/
def repCmd (lo : Nat) (c : Cmd) (w : World) (v : Value) : Prop := ∃ sv, v = .agg (cmdCells c sv).toArray ∧ selIs lo c.sel w sv
theorem repCmd_nil {lo : Nat} {c : Cmd} {w : World} {v : Value} (h : v = .agg (cmdCells c (.slice none 0 0)).toArray) (hs : c.sel = []) : repCmd lo c w v := ⟨_, h, Or.inl ⟨hs, rfl⟩⟩

section
variable {rb : Nat} {w0 w : World} {p0 p : Res Cmd} {ts : List Tok} {own : List (Nat × List Value)} {c d : Nat} {cm : Cmd} {sv : Value}
theorem St.cellC (h : St rb w0 p0 p ts ((c, cmdCells cm sv) :: own) w) (k : Nat) (hk : k < 19) : ∃ u, w.cell? ⟨c, k, none⟩ = some u ∧ w.frozen? ⟨c, k, none⟩ = false :=
  ⟨_, h.head.cell (List.getElem?_eq_getElem (show k < (cmdCells cm sv).length from hk)), h.head.frozen hk⟩
theorem St.setC (h : St rb w0 p0 p ts ((c, cmdCells cm sv) :: own) w) (k : Nat) (v : Value) (cm' : Cmd) (sv' : Value) (hk : k < 19) (hv : (cmdCells cm sv).set k v = cmdCells cm' sv') :
    St rb w0 p0 p ts ((c, cmdCells cm' sv') :: own) (w.setCell ⟨c, k, none⟩ v) := h.set k v hk hv
theorem St.setPlace (h : St rb w0 p0 p ts ((c, cmdCells cm sv) :: own) w) (f : Fix) : St rb w0 p0 p ts ((c, cmdCells { cm with place := f } sv) :: own) (((((((w.setCell ⟨c, 11, none⟩ (.int .i64 f.channel)).setCell ⟨c, 12, none⟩ (.int .i64 f.part)).setCell ⟨c, 13, none⟩ (.string f.profile)).setCell ⟨c, 14, none⟩ (.int .i64 f.universe_)).setCell ⟨c, 15, none⟩ (.int .i64 f.address)).setCell ⟨c, 16, none⟩ (.int .i64 f.phase)).setCell ⟨c, 17, none⟩ (.string f.cable)) :=
  (((((((h.setC 11 (.int .i64 f.channel) { cm with place := { cm.place with channel := f.channel } } sv (by decide) rfl).setC 12 (.int .i64 f.part) { cm with place := { cm.place with channel := f.channel, part := f.part } } sv (by decide) rfl).setC 13 (.string f.profile) { cm with place := { cm.place with channel := f.channel, part := f.part, profile := f.profile } } sv (by decide) rfl).setC 14 (.int .i64 f.universe_) { cm with place := { cm.place with channel := f.channel, part := f.part, profile := f.profile, universe_ := f.universe_ } } sv (by decide) rfl).setC 15 (.int .i64 f.address) { cm with place := { cm.place with channel := f.channel, part := f.part, profile := f.profile, universe_ := f.universe_, address := f.address } } sv (by decide) rfl).setC 16 (.int .i64 f.phase) { cm with place := { cm.place with channel := f.channel, part := f.part, profile := f.profile, universe_ := f.universe_, address := f.address, phase := f.phase } } sv (by decide) rfl).setC 17 (.string f.cable) { cm with place := f } sv (by decide) rfl)
theorem St.fin {lo : Nat} {zm : Cmd} {zv : Value} (h : St rb w0 p0 (.ok cm ts) ts ((c, cmdCells cm sv) :: (d, cmdCells zm zv) :: own) w) {f : Func} {a : Act} (k : Nat)
    (hs : ∀ W, St rb w0 p0 (.ok cm ts) ts ((d, cmdCells cm sv) :: (c, cmdCells cm sv) :: own) W → selIs lo cm.sel W sv)
    (hf : f.results = #[.cell k 29]) (hk : a.tmps.getD k undef = .pointer (some ⟨d, 0, none⟩)) (hdef : a.defers = []) :
    bodyPost Tryz.prog f (Post rb w0 p0 (repCmd lo)) .ret a (w.setCells d 0 (cmdCells cm sv)) :=
  have h1 := h.swap.setAll (cmdCells cm sv) rfl
  ret_own h1.head k 29 hf hk Tryz.underlying29 rfl size29 hdef (h1.done ⟨sv, rfl, hs _ h1⟩)
end
theorem size_one (w : World) (o : Obj) : (w.alloc o).heap.size = w.heap.size + 1 := by simp

def undoP (verb : ByteArray) (ts : List Tok) : Res Cmd := .ok { cmd0 with kind := 9, verb := verb } ts

set_option maxRecDepth 100000 in
set_option maxHeartbeats 1000000 in
theorem undo_any {rb : Nat} {ts : List Tok} {w : World} (vb : ByteArray) (h : Rd w rb ts) (hR : Right ts) :
    Calls Tryz.prog 200 #[.pointer (some ⟨rb, 0, none⟩), .string vb] w (Post rb w (undoP vb ts) (repCmd w.heap.size)) := by
  have H := Lib.hid ((St.start h hR (undoP vb ts)).alloc (cmdCells { cmd0 with kind := 9, verb := vb } (.slice none 0 0)) 29); clear h hR
  go_enter Tryz.func200, Tryz.ntmps200
  go_wp2_with (((with_reducible refine at_st (ty := 29) ?_); refine wpl_fresh (ty := 29) (cs := ?_) ?_ ?_ ?_ ?_ ?_ ?_; rotate_left; exact rfl; exact rfl; exact rfl; exact size29; exact rfl))
  refine ret_own H.out.head 4 29 rfl rfl Tryz.underlying29 rfl size29 rfl ?_
  exact H.out.done (repCmd_nil rfl rfl)

def blackoutP (verb : ByteArray) (ts : List Tok) : Res Cmd :=
  (needP [⟨#[111, 110]⟩, ⟨#[111, 102, 102]⟩] ts).bind fun s ts1 => .ok { cmd0 with kind := 7, verb := verb, level := if s = ⟨#[111, 110]⟩ then 1 else 0 } ts1

set_option maxRecDepth 100000 in
set_option maxHeartbeats 1000000 in
theorem blackout_any {rb : Nat} {ts : List Tok} {w : World} (vb : ByteArray) (h : Rd w rb ts) (hR : Right ts) :
    Calls Tryz.prog 195 #[.pointer (some ⟨rb, 0, none⟩), .string vb] w (Post rb w (blackoutP vb ts) (repCmd w.heap.size)) := by
  have H := Lib.hid (((St.start h hR (blackoutP vb ts)).alloc (cmdCells cmd0 (.slice none 0 0)) 29).alloc (cmdCells { cmd0 with kind := 7, verb := vb } (.slice none 0 0)) 29); clear h hR
  rw [size_one] at H
  go_enter Tryz.func195, Tryz.ntmps195
  go_wp2_with (((with_reducible refine at_st (ty := 29) ?_); refine wpl_fresh (ty := 29) (cs := ?_) ?_ ?_ ?_ ?_ ?_ ?_; rotate_left; exact (by simp [World.size_alloc]; rfl); exact rfl; exact rfl; exact size29; exact rfl))
  refine St.need [⟨#[111, 110]⟩, ⟨#[111, 102, 102]⟩] rfl (by decide) H.out (by simp) ?_ (by (intro p e w1 hr he; exact ⟨rfl, Post.mkErr hr he⟩))
  intro s ts1 w1 hs H1
  simp only [List.mem_cons, List.not_mem_nil, or_false] at hs
  rcases hs with rfl | rfl
  · obtain ⟨u, hc, hf⟩ := H1.out.cellC 7 (by decide)
    have H2 := Lib.hid (H1.out.setC 7 (.int .i64 1) { cmd0 with kind := 7, verb := vb, level := 1 } (.slice none 0 0) (by decide) rfl)
    go_wp2_with (first | (((with_reducible refine at_ld (ty := 29) ?_); refine wpl_load (ty := 29) (St.head H2.out) ?_ Tryz.underlying29 ?_ ?_ ?_; exact rfl; exact rfl; exact size29)) | (((with_reducible refine at_st (ty := 29) ?_); refine wpl_store (ty := 29) (cs := ?_) (St.second H2.out) ?_ ?_ ?_ ?_ ?_ ?_; rotate_left; exact rfl; exact rfl; exact rfl; exact size29; exact rfl)))
    exact St.fin H2.out 4 (fun _ _ => Or.inl ⟨rfl, rfl⟩) rfl rfl rfl
  · go_wp2_with (first | (((with_reducible refine at_ld (ty := 29) ?_); refine wpl_load (ty := 29) (St.head H1.out) ?_ Tryz.underlying29 ?_ ?_ ?_; exact rfl; exact rfl; exact size29)) | (((with_reducible refine at_st (ty := 29) ?_); refine wpl_store (ty := 29) (cs := ?_) (St.second H1.out) ?_ ?_ ?_ ?_ ?_ ?_; rotate_left; exact rfl; exact rfl; exact rfl; exact size29; exact rfl)))
    exact St.fin H1.out 4 (fun _ _ => Or.inl ⟨rfl, rfl⟩) rfl rfl rfl

def faderQ (verb : ByteArray) (n : Int) (ts1 : List Tok) : Res Cmd :=
  (needP [⟨#[97, 116]⟩] ts1).bind fun _ ts2 => (levelP ts2).bind fun v ts3 => (timeP ts3).bind fun t ts4 =>
    .ok { cmd0 with kind := 7, verb := verb, list := n, level := v, time := t } ts4
def faderP (verb : ByteArray) (ts : List Tok) : Res Cmd :=
  (if verb.toList = [109, 97, 115, 116, 101, 114] then Res.ok 0 ts else listP ts).bind (faderQ verb)

set_option maxRecDepth 100000 in
set_option maxHeartbeats 2000000 in
theorem fader_any {rb : Nat} {ts : List Tok} {w : World} (vb : ByteArray) (h : Rd w rb ts) (hR : Right ts) :
    Calls Tryz.prog 198 #[.pointer (some ⟨rb, 0, none⟩), .string vb] w (Post rb w (faderP vb ts) (repCmd w.heap.size)) := by
  have H := Lib.hid (((St.start h hR (faderP vb ts)).alloc (cmdCells cmd0 (.slice none 0 0)) 29).alloc (cmdCells { cmd0 with kind := 7, verb := vb } (.slice none 0 0)) 29); clear h hR
  rw [size_one] at H
  go_enter Tryz.func198, Tryz.ntmps198
  by_cases hv : vb.toList = [109, 97, 115, 116, 101, 114]
  · have H1 := Lib.hid (H.out.cast (show faderP vb ts = (Res.ok 0 ts).bind (faderQ vb) by unfold faderP; rw [if_pos hv]))
    have hv' : (vb.toList == [109, 97, 115, 116, 101, 114]) = true := by rw [hv]; rfl
    rw [Res.bind_ok] at H1
    unfold faderQ at H1
    clear hv H
    go_wp2_with (((with_reducible refine at_st (ty := 29) ?_); refine wpl_fresh (ty := 29) (cs := ?_) ?_ ?_ ?_ ?_ ?_ ?_; rotate_left; exact (by simp [World.size_alloc]; rfl); exact rfl; exact rfl; exact size29; exact rfl))
    refine St.need [⟨#[97, 116]⟩] rfl (by decide) H1.out (by simp) ?_ (by (intro p e w1 hr he; exact ⟨rfl, Post.mkErr hr he⟩))
    intro s ts1 w1 _ H2
    obtain ⟨u, hc, hf⟩ := H2.out.cellC 7 (by decide)
    go_wp2_with fail
    refine H2.out.call (level_any H2.out.rd H2.out.right) ?_ (by (intro p e w1 hr he; exact ⟨rfl, Post.mkErr hr he⟩))
    rintro v ts2 _ w2 _ rfl H3
    clear hc hf
    obtain ⟨u, hc, hf⟩ := H3.out.cellC 7 (by decide)
    have H4 := Lib.hid (H3.out.setC 7 (.int .i64 v) { cmd0 with kind := 7, verb := vb, level := v } (.slice none 0 0) (by decide) rfl)
    go_wp2_with fail
    refine H4.out.call (time_any H4.out.rd H4.out.right) ?_ (by (intro p e w1 hr he; exact ⟨rfl, Post.mkErr hr he⟩))
    rintro t ts3 _ w3 _ rfl H5
    clear hc hf
    obtain ⟨u, hc, hf⟩ := H5.out.cellC 9 (by decide)
    have H6 := Lib.hid (H5.out.setC 9 (.int .i64 t) { cmd0 with kind := 7, verb := vb, level := v, time := t } (.slice none 0 0) (by decide) rfl)
    go_wp2_with (first | (((with_reducible refine at_ld (ty := 29) ?_); refine wpl_load (ty := 29) (St.head H6.out) ?_ Tryz.underlying29 ?_ ?_ ?_; exact rfl; exact rfl; exact size29)) | (((with_reducible refine at_st (ty := 29) ?_); refine wpl_store (ty := 29) (cs := ?_) (St.second H6.out) ?_ ?_ ?_ ?_ ?_ ?_; rotate_left; exact rfl; exact rfl; exact rfl; exact size29; exact rfl)))
    exact St.fin H6.out 4 (fun _ _ => Or.inl ⟨rfl, rfl⟩) rfl rfl rfl
  · have H1 := Lib.hid (H.out.cast (show faderP vb ts = (listP ts).bind (faderQ vb) by unfold faderP; rw [if_neg hv]))
    have hv' : (vb.toList == [109, 97, 115, 116, 101, 114]) = false := by simpa using hv
    clear hv H
    go_wp2_with (((with_reducible refine at_st (ty := 29) ?_); refine wpl_fresh (ty := 29) (cs := ?_) ?_ ?_ ?_ ?_ ?_ ?_; rotate_left; exact (by simp [World.size_alloc]; rfl); exact rfl; exact rfl; exact size29; exact rfl))
    refine H1.out.call (list_any H1.out.rd H1.out.right) ?_ (by (intro p e w1 hr he; exact ⟨rfl, Post.mkErr hr he⟩))
    rintro n ts1' _ w1' _ rfl H1b
    obtain ⟨u, hc, hf⟩ := H1b.out.cellC 4 (by decide)
    have H1c := Lib.hid (H1b.out.setC 4 (.int .i64 n) { cmd0 with kind := 7, verb := vb, list := n } (.slice none 0 0) (by decide) rfl)
    go_wp2_with fail
    clear hc hf
    unfold faderQ at H1c
    refine St.need [⟨#[97, 116]⟩] rfl (by decide) H1c.out (by simp) ?_ (by (intro p e w1 hr he; exact ⟨rfl, Post.mkErr hr he⟩))
    intro s ts1 w1 _ H2
    obtain ⟨u, hc, hf⟩ := H2.out.cellC 7 (by decide)
    go_wp2_with fail
    refine H2.out.call (level_any H2.out.rd H2.out.right) ?_ (by (intro p e w1 hr he; exact ⟨rfl, Post.mkErr hr he⟩))
    rintro v ts2 _ w2 _ rfl H3
    clear hc hf
    obtain ⟨u, hc, hf⟩ := H3.out.cellC 7 (by decide)
    have H4 := Lib.hid (H3.out.setC 7 (.int .i64 v) { cmd0 with kind := 7, verb := vb, list := n, level := v } (.slice none 0 0) (by decide) rfl)
    go_wp2_with fail
    refine H4.out.call (time_any H4.out.rd H4.out.right) ?_ (by (intro p e w1 hr he; exact ⟨rfl, Post.mkErr hr he⟩))
    rintro t ts3 _ w3 _ rfl H5
    clear hc hf
    obtain ⟨u, hc, hf⟩ := H5.out.cellC 9 (by decide)
    have H6 := Lib.hid (H5.out.setC 9 (.int .i64 t) { cmd0 with kind := 7, verb := vb, list := n, level := v, time := t } (.slice none 0 0) (by decide) rfl)
    go_wp2_with (first | (((with_reducible refine at_ld (ty := 29) ?_); refine wpl_load (ty := 29) (St.head H6.out) ?_ Tryz.underlying29 ?_ ?_ ?_; exact rfl; exact rfl; exact size29)) | (((with_reducible refine at_st (ty := 29) ?_); refine wpl_store (ty := 29) (cs := ?_) (St.second H6.out) ?_ ?_ ?_ ?_ ?_ ?_; rotate_left; exact rfl; exact rfl; exact rfl; exact size29; exact rfl)))
    exact St.fin H6.out 4 (fun _ _ => Or.inl ⟨rfl, rfl⟩) rfl rfl rfl
end Go.Proofs.YtjojihadnplllaaGreatDoor
