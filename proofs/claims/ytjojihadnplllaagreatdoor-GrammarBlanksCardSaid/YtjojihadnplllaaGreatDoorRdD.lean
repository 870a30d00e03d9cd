/- The methods of grammar's reader that read a term, a channel, a selection. -/
import Derived.Test.YtjojihadnplllaaGreatDoorRdC
namespace Go.Proofs.YtjojihadnplllaaGreatDoor
open Go.RowKit Go Go.Shelf Go.Proofs

/-- A term of a selection. -/
structure Sel where
  op : Int
  group : Int
  lo : Int
  hi : Int
def selCells (s : Sel) : List Value := [.int .i64 s.op, .int .i64 s.group, .int .i64 s.lo, .int .i64 s.hi]
def repSel (s : Sel) (_ : World) (v : Value) : Prop := v = .agg (selCells s).toArray

def termP (op : Int) (ts : List Tok) : Res Sel :=
  (wordP [⟨#[103, 114, 111, 117, 112]⟩] ts).bind fun s ts1 =>
    if s.toList.isEmpty = true then
      (intP 999 ts1).bind fun n ts2 => (wordP [⟨#[116, 104, 114, 117]⟩] ts2).bind fun s2 ts3 =>
        if s2.toList.isEmpty = true then .ok ⟨op, 0, n, n⟩ ts3
        else (intP 999 ts3).bind fun m ts4 => if m < n then .err (hd ts3).pos 9 else .ok ⟨op, 0, n, m⟩ ts4
    else (intP 1048576 ts1).bind fun g ts2 => .ok ⟨op, g, 0, 0⟩ ts2

theorem desc68 : ∃ d, Tryz.prog.underlying 68 = some d ∧ d.isRow = true := ⟨_, Tryz.underlying68, rfl⟩

set_option maxHeartbeats 1000000 in
theorem term_any {rb : Nat} {ts : List Tok} {w : World} (op : Int) (h : Rd w rb ts) (hR : Right ts) :
    Calls Tryz.prog 164 #[.pointer (some ⟨rb, 0, none⟩), .int .i64 op] w (Post rb w (termP op ts) repSel) := by
  have H := Lib.hid ((St.start h hR (termP op ts)).alloc [.int .i64 0, .int .i64 0, .int .i64 0, .int .i64 0] 68); clear h hR
  go_enter Tryz.func164, Tryz.ntmps164
  go_wp2_with fail
  refine St.word [⟨#[103, 114, 111, 117, 112]⟩] rfl (by decide) H.out (by simp) ?_ (by (intro p e w1 hr he; exact ⟨rfl, Post.mkErr hr he⟩))
  intro s ts1 w1 _ H1
  by_cases hz : s.toList.isEmpty = true
  · have H1' := Lib.hid (H1.out.cast (if_pos hz)); clear H1
    go_wp2_with fail
    refine H1'.out.call (int_any _ H1'.out.rd H1'.out.right) ?_ (by (intro p e w1 hr he; exact ⟨rfl, Post.mkErr hr he⟩))
    rintro n ts2 v w2 _ rfl H2
    go_wp2_with fail
    refine St.word [⟨#[116, 104, 114, 117]⟩] rfl (by decide) H2.out rfl ?_ (by (intro p e w1 hr he; exact ⟨rfl, Post.mkErr hr he⟩))
    intro s2 ts3 w3 _ H3
    clear hz
    by_cases hz2 : s2.toList.isEmpty = true
    · have H3' := Lib.hid (H3.out.cast (if_pos hz2)); clear H3
      go_wp2_with (((with_reducible refine at_st (ty := 68) ?_); refine wpl_store (ty := 68) (cs := ?_) H3'.out.head ?_ ?_ ?_ ?_ ?_ ?_; rotate_left; exact rfl; exact rfl; exact rfl; exact size68; exact rfl))
      have H4 := Lib.hid (H3'.out.setAll [.int .i64 op, .int .i64 0, .int .i64 n, .int .i64 n] rfl)
      refine ret_own H4.out.head 4 68 rfl rfl Tryz.underlying68 rfl size68 rfl ?_
      exact H4.out.done rfl
    · have H3' := Lib.hid (H3.out.cast (if_neg hz2)); clear H3
      have hz2' : s2.toList.isEmpty = false := by simpa using hz2
      clear hz2
      go_wp2_with fail
      refine St.next H3'.out ?_
      intro w4 H4
      go_wp2_with fail
      refine H4.out.call (int_any _ H4.out.rd H4.out.right) ?_ (by (intro p e w1 hr he; exact ⟨rfl, Post.mkErr hr he⟩))
      rintro m ts5 v w5 _ rfl H5
      by_cases hlt : m < n
      · have H6 := Lib.hid (H5.out.cast (if_pos hlt)); clear H5
        go_wp2_with fail
        exact ⟨rfl, Post.mkErr H6.out.eq H6.out.ext⟩
      · have H6 := Lib.hid (H5.out.cast (if_neg hlt)); clear H5
        go_wp2_with (((with_reducible refine at_st (ty := 68) ?_); refine wpl_store (ty := 68) (cs := ?_) H6.out.head ?_ ?_ ?_ ?_ ?_ ?_; rotate_left; exact rfl; exact rfl; exact rfl; exact size68; exact rfl))
        have H7 := Lib.hid (H6.out.setAll [.int .i64 op, .int .i64 0, .int .i64 n, .int .i64 m] rfl)
        refine ret_own H7.out.head 4 68 rfl rfl Tryz.underlying68 rfl size68 rfl ?_
        exact H7.out.done rfl
  · have H1' := Lib.hid (H1.out.cast (if_neg hz)); clear H1
    have hz' : s.toList.isEmpty = false := by simpa using hz
    clear hz
    go_wp2_with fail
    refine H1'.out.call (int_any _ H1'.out.rd H1'.out.right) ?_ (by (intro p e w1 hr he; exact ⟨rfl, Post.mkErr hr he⟩))
    rintro n ts2 v w2 _ rfl H2
    go_wp2_with (((with_reducible refine at_st (ty := 68) ?_); refine wpl_store (ty := 68) (cs := ?_) H2.out.head ?_ ?_ ?_ ?_ ?_ ?_; rotate_left; exact rfl; exact rfl; exact rfl; exact size68; exact rfl))
    have H4 := Lib.hid (H2.out.setAll [.int .i64 op, .int .i64 n, .int .i64 0, .int .i64 0] rfl)
    refine ret_own H4.out.head 4 68 rfl rfl Tryz.underlying68 rfl size68 rfl ?_
    exact H4.out.done rfl

theorem numberP_len {ts ts' : List Tok} {s : ByteArray} (h : numberP ts = .ok s ts') : ts'.length ≤ ts.length := by rw [(numberP_ok h).1]; exact Nat.le_refl _
theorem wordP_len {ws : List ByteArray} {ts ts' : List Tok} {s : ByteArray} (h : wordP ws ts = .ok s ts') : ts'.length ≤ ts.length := by
  rcases wordP_mem h with ⟨_, rfl⟩ | ⟨_, rfl⟩
  · simp
  · exact Nat.le_refl _
theorem intP_len {m : Int} {ts ts' : List Tok} {n : Int} (h : intP m ts = .ok n ts') : ts'.length ≤ ts.length := by
  unfold intP at h
  cases hn : numberP ts with
  | err p e => rw [hn] at h; cases h
  | ok s ts1 =>
    have hl := numberP_len hn
    rw [hn, Res.bind_ok] at h
    split at h
    · cases h
    · split at h
      · cases h
      · cases h; simp; omega
theorem bind_len {α β : Type} {A : Res β} {k : β → List Tok → Res α} {a : α} {ts' : List Tok} {n : Nat} (h : A.bind k = .ok a ts') (h1 : ∀ b ts1, A = .ok b ts1 → ts1.length ≤ n)
    (h2 : ∀ b ts1, k b ts1 = .ok a ts' → ts'.length ≤ ts1.length) : ts'.length ≤ n := by
  cases A with
  | err p e => cases h
  | ok b ts1 => exact Nat.le_trans (h2 b ts1 h) (h1 b ts1 rfl)
theorem termP_len {op : Int} {ts ts' : List Tok} {s : Sel} (h : termP op ts = .ok s ts') : ts'.length ≤ ts.length := by
  refine bind_len h (fun _ _ h => wordP_len h) fun x ts1 h => ?_
  split at h
  · refine bind_len h (fun _ _ h => intP_len h) fun x ts2 h => ?_
    refine bind_len h (fun _ _ h => wordP_len h) fun x ts3 h => ?_
    split at h
    · cases h; exact Nat.le_refl _
    · refine bind_len h (fun _ _ h => intP_len h) fun x ts4 h => ?_
      split at h
      · cases h
      · cases h; exact Nat.le_refl _
  · refine bind_len h (fun _ _ h => intP_len h) fun x ts4 h => ?_
    cases h; exact Nat.le_refl _

/-- The further terms of a selection. -/
def moreP : Nat → List Sel → List Tok → Res (List Sel)
  | 0, l, ts => .ok l ts
  | n + 1, l, ts => (signP ⟨#[43]⟩ ts).bind fun b ts1 =>
      if b = true then (termP 0 ts1).bind fun s ts2 => moreP n (l ++ [s]) ts2
      else (signP ⟨#[45]⟩ ts1).bind fun b2 ts2 => if b2 = true then (termP 1 ts2).bind fun s ts3 => moreP n (l ++ [s]) ts3 else .ok l ts2
def selectionP (ts : List Tok) : Res (List Sel) := (termP 0 ts).bind fun s ts1 => moreP ts1.length [s] ts1

def selsCells (l : List Sel) : List Value := l.flatMap selCells
/-- A selection as a value. -/
def repSels (lo : Nat) (l : List Sel) (w : World) (v : Value) : Prop := ∃ b cap, v = .slice (some ⟨b, 0, none⟩) l.length cap ∧ lo ≤ b ∧ Own w b (selsCells l)

theorem signP_true {s : ByteArray} {ts ts' : List Tok} (hR : Right ts) (h : signP s ts = .ok true ts') : ts'.length + 1 ≤ ts.length := by
  obtain ⟨t, l, rfl⟩ := hR.cons
  unfold signP at h
  split at h
  · cases h; exact Nat.le_refl _
  · cases h
theorem signP_false {s : ByteArray} {ts ts' : List Tok} (h : signP s ts = .ok false ts') : ts' = ts := by
  unfold signP at h
  split at h
  · cases h
  · cases h; rfl

theorem Own.of_row {w : World} {base : Nat} {e : TypeId} {size : Nat} {v : Value} {n : Nat} {xs : List Value} (h : w.ownsRow base e size v n xs) (hn : 0 < n) :
    ∃ g cap, v = .slice (some ⟨g, 0, none⟩) n cap ∧ base ≤ g ∧ Own w g xs := by
  rcases h.2 with ⟨_, h0⟩ | ⟨g, cap, cur, hv, hg, hh, hnc, _, hcur, hx⟩
  · omega
  · have hgs : g < w.heap.size := by
      rcases Nat.lt_or_ge g w.heap.size with h1 | h1
      · exact h1
      · rw [Array.getElem?_eq_none h1] at hh; cases hh
    have hat : ∀ j v, xs[j]? = some v → cur[j]? = some v := fun j v hj => by
      rw [← hx, List.getElem?_take] at hj
      split at hj
      · simpa using hj
      · cases hj
    refine ⟨g, cap, hv, hg, hgs, fun j v hj => ?_, fun j hj => ?_⟩
    · rw [Nat.zero_add, cell_of_row w g j cur e (0, 0) hh]; exact hat j v hj
    · rw [Nat.zero_add]
      refine ⟨?_, ?_⟩
      · rw [cell_of_row w g j cur e (0, 0) hh, hat j _ (List.getElem?_eq_getElem hj)]; rfl
      · simp [World.frozen?, hh]

theorem ownsRow_one (w : World) (e : TypeId) (base : Nat) (xs : List Value) (hb : base ≤ w.heap.size) : (w.alloc (.cells xs.toArray e)).ownsRow base e xs.length (.slice (some ⟨w.heap.size, 0, none⟩) 1 1) 1 xs := by
  refine ⟨by omega, Or.inr ⟨w.heap.size, 1, xs.toArray, rfl, hb, heap_alloc_last w _, Nat.le_refl _, by unfold maxLen; omega, by simp, by simp⟩⟩

theorem selsCells_snoc (l : List Sel) (s : Sel) : selsCells l ++ [.int .i64 s.op, .int .i64 s.group, .int .i64 s.lo, .int .i64 s.hi] = selsCells (l ++ [s]) := by
  simp [selsCells, selCells]
theorem row_new4 (w : World) (a b c d : Value) : ∀ j u, [a, b, c, d][j]? = some u → (w.alloc (.cells #[a, b, c, d] 68)).cell? ((⟨w.heap.size, 0, none⟩ : Addr).add j) = some u := fun j u hj => by
  rw [Addr.add_mid, Nat.zero_add, World.cell?_alloc_new]
  simpa using hj
theorem info68 : (Tryz.prog.info? 68).map (fun i => (i.zero, i.size, i.bytes)) = some (some (.agg #[.int .i64 0, .int .i64 0, .int .i64 0, .int .i64 0]), 4, 32) := by kernel_rfl

set_option maxRecDepth 100000 in
set_option maxHeartbeats 4000000 in
theorem selection_any {rb : Nat} {ts : List Tok} {w : World} (h : Rd w rb ts) (hR : Right ts) :
    Calls Tryz.prog 79 #[.pointer (some ⟨rb, 0, none⟩)] w (Post rb w (selectionP ts) (repSels w.heap.size)) := by
  have hlen := hR.2.2
  have hrb : rb < w.heap.size := h.2.2.1
  have H := Lib.hid (St.start h hR (selectionP ts)); clear h hR
  obtain ⟨i0, hi, hz0, hz1, hz2⟩ := info_parts info68
  go_enter Tryz.func79, Tryz.ntmps79
  go_wp2_with fail
  refine H.out.call (term_any 0 H.out.rd H.out.right) ?_ (by (intro p e w1 hr he; exact ⟨rfl, Post.mkErr hr he⟩))
  rintro ⟨so, sg, sl, sh⟩ ts1 v w1 hA rfl H1
  have hl1 := termP_len hA.out
  have HO1 := Lib.hid (ownsRow_one w1 68 w.heap.size [.int .i64 so, .int .i64 sg, .int .i64 sl, .int .i64 sh] H1.out.ext.size)
  unfold selCells
  go_wp2_with fail
  go_loopg [3] ts1.length (fun gf v wr => ∃ (ts' : List Tok) (l : List Sel), Hid (ts'.length ≤ gf) ∧ Hid (0 < l.length ∧ l.length + gf ≤ 1001) ∧ Hid (wr.ownsRow w.heap.size 68 4 v l.length (selsCells l)) ∧ Hid (St rb w (selectionP ts) (moreP gf l ts') ts' [] wr))
  case atStart => exact ⟨ts1, [⟨so, sg, sl, sh⟩], Lib.hid (Nat.le_refl _), Lib.hid ⟨by simp, by simp; omega⟩, HO1, Lib.hid (H1.out.skip _)⟩
  case round =>
    clear hl1 hA H1 HO1
    obtain ⟨ts', l, HL, HLL, HO, HS⟩ := hrel
    obtain ⟨g, cap, rfl, hg, hown⟩ := Own.of_row HO.out HLL.out.1
    clear hg hown
    obtain ⟨gf, rfl⟩ : ∃ gf, gk = gf + 1 := by
      have h1 := HL.out
      obtain ⟨t, l', rfl⟩ := HS.out.right.cons
      simp at h1
      exact ⟨gk - 1, by omega⟩
    go_wp2_with fail
    refine HS.out.callX (sign_any _ HS.out.rd HS.out.right) ?_ (by (intro p e w1 hr he; exact ⟨rfl, Post.mkErr hr he⟩))
    rintro b ts2 v w2 hA rfl hx1 H1
    have HO1 := Lib.hid (ownsRow_ext HO.out hx1.out hrb)
    cases b
    · have hts := signP_false hA.out
      have H1' := Lib.hid (H1.out.cast (if_neg (by decide))); clear H1 hA
      subst hts
      go_wp2_with fail
      refine H1'.out.callX (sign_any _ H1'.out.rd H1'.out.right) ?_ (by (intro p e w1 hr he; exact ⟨rfl, Post.mkErr hr he⟩))
      rintro b ts2 v w2b hA rfl hx1b H1
      have HO1b := Lib.hid (ownsRow_ext HO1.out hx1b.out hrb)
      clear hx1 hx1b HO1 HO HS
      cases b
      · have H4 := Lib.hid (H1.out.cast (if_neg (by decide)))
        go_wp2_with fail
        go_ret
        obtain ⟨g', cap', hv, hg, hown⟩ := Own.of_row HO1b.out HLL.out.1
        exact H4.out.done ⟨g', cap', hv, hg, hown⟩
      · have hlt := Lib.hid (signP_true H1'.out.right hA.out)
        have H4 := Lib.hid (H1.out.cast (if_pos rfl)); clear H1 hA H1'
        go_wp2_with fail
        refine H4.out.callX (term_any 1 H4.out.rd H4.out.right) ?_ (by (intro p e w1 hr he; exact ⟨rfl, Post.mkErr hr he⟩))
        rintro ⟨so, sg, sl, sh⟩ ts3 v w3 hA2 rfl hx2 H2
        unfold selCells
        have HO2 := Lib.hid (ownsRow_ext HO1b.out hx2.out hrb)
        go_wp2_with (at_builtin; refine wpList_append_own _ rfl _ _ 24 rfl w.heap.size 68 i0 _ 4 32 Tryz.underlying24 hi hz0 hz1 hz2 rfl (by decide) _ _ _ rfl (HO2.out.alloc _) ⟨w3.heap.size, 0, none⟩ 1 1 [.int .i64 so, .int .i64 sg, .int .i64 sl, .int .i64 sh] rfl rfl ?c1 ?c2 ?c3 ?c4 ?c5 ?_)
        case c1 => exact row_new4 w3 _ _ _ _
        case c2 => intro u hu; simp only [List.mem_cons, List.not_mem_nil, or_false] at hu; rcases hu with rfl | rfl | rfl | rfl <;> rfl
        case c3 => have := HLL.out; unfold maxLen; omega
        case c4 => have := HLL.out; omega
        case c5 => have := H2.out.ext.size; simp; omega
        intro v' w4 hown hgrow _
        have hbl : Below w.heap.size (w3.alloc (.cells #[.int .i64 so, .int .i64 sg, .int .i64 sl, .int .i64 sh] 68)) w4 := by
          refine ⟨hgrow.os, hgrow.tape, hgrow.output, hgrow.size, fun k hk => hgrow.block k (by have := H2.out.ext.size; simp; omega) (fun e => ?_)⟩
          have := (HO2.out.lt (k := k) e.symm).1
          omega
        have H3 := Lib.hid ((H2.out.skip (.cells #[.int .i64 so, .int .i64 sg, .int .i64 sl, .int .i64 sh] 68)).belowN hbl)
        rw [selsCells_snoc l ⟨so, sg, sl, sh⟩] at hown
        have HO3 := Lib.hid hown
        have hl2 := Lib.hid (termP_len hA2.out)
        clear hown hbl hgrow HO2 hA2
        obtain ⟨x', cap', rfl⟩ : ∃ x' cap', v' = .slice x' (l.length + 1) cap' := by
          rcases HO3.out.2 with ⟨_, h0⟩ | ⟨g, cap', _, h, _⟩
          · omega
          · exact ⟨_, _, h⟩
        go_wp2_with fail
        go_roundg gf
        case measure => omega
        case rel =>
          exact ⟨ts3, l ++ [⟨so, sg, sl, sh⟩], Lib.hid (by have h1 := hl2.out; have h2 := hlt.out; have h3 := HL.out; omega), Lib.hid (by have := HLL.out; rw [List.length_append]; simp; omega), Lib.hid (by rw [List.length_append]; exact HO3.out), H3⟩
    · have hlt := Lib.hid (signP_true HS.out.right hA.out)
      have H1' := Lib.hid (H1.out.cast (if_pos rfl)); clear H1 hA hx1 HO HS
      go_wp2_with fail
      refine H1'.out.callX (term_any 0 H1'.out.rd H1'.out.right) ?_ (by (intro p e w1 hr he; exact ⟨rfl, Post.mkErr hr he⟩))
      rintro ⟨so, sg, sl, sh⟩ ts3 v w3 hA2 rfl hx2 H2
      unfold selCells
      have HO2 := Lib.hid (ownsRow_ext HO1.out hx2.out hrb)
      go_wp2_with (at_builtin; refine wpList_append_own _ rfl _ _ 24 rfl w.heap.size 68 i0 _ 4 32 Tryz.underlying24 hi hz0 hz1 hz2 rfl (by decide) _ _ _ rfl (HO2.out.alloc _) ⟨w3.heap.size, 0, none⟩ 1 1 [.int .i64 so, .int .i64 sg, .int .i64 sl, .int .i64 sh] rfl rfl ?c1 ?c2 ?c3 ?c4 ?c5 ?_)
      case c1 => exact row_new4 w3 _ _ _ _
      case c2 => intro u hu; simp only [List.mem_cons, List.not_mem_nil, or_false] at hu; rcases hu with rfl | rfl | rfl | rfl <;> rfl
      case c3 => have := HLL.out; unfold maxLen; omega
      case c4 => have := HLL.out; omega
      case c5 => have := H2.out.ext.size; simp; omega
      intro v' w4 hown hgrow _
      have hbl : Below w.heap.size (w3.alloc (.cells #[.int .i64 so, .int .i64 sg, .int .i64 sl, .int .i64 sh] 68)) w4 := by
        refine ⟨hgrow.os, hgrow.tape, hgrow.output, hgrow.size, fun k hk => hgrow.block k (by have := H2.out.ext.size; simp; omega) (fun e => ?_)⟩
        have := (HO2.out.lt (k := k) e.symm).1
        omega
      have H3 := Lib.hid ((H2.out.skip (.cells #[.int .i64 so, .int .i64 sg, .int .i64 sl, .int .i64 sh] 68)).belowN hbl)
      rw [selsCells_snoc l ⟨so, sg, sl, sh⟩] at hown
      have HO3 := Lib.hid hown
      have hl2 := Lib.hid (termP_len hA2.out)
      clear hown hbl hgrow HO2 hA2
      obtain ⟨x', cap', rfl⟩ : ∃ x' cap', v' = .slice x' (l.length + 1) cap' := by
        rcases HO3.out.2 with ⟨_, h0⟩ | ⟨g, cap', _, h, _⟩
        · omega
        · exact ⟨_, _, h⟩
      go_wp2_with fail
      go_roundg gf
      case measure => omega
      case rel =>
        exact ⟨ts3, l ++ [⟨so, sg, sl, sh⟩], Lib.hid (by have h1 := hl2.out; have h2 := hlt.out; have h3 := HL.out; omega), Lib.hid (by have := HLL.out; rw [List.length_append]; simp; omega), Lib.hid (by rw [List.length_append]; exact HO3.out), H3⟩
end Go.Proofs.YtjojihadnplllaaGreatDoor
