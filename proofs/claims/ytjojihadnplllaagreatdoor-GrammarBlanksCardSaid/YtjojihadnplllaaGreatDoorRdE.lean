/- The method of grammar's reader that reads a channel. -/
import Derived.Test.YtjojihadnplllaaGreatDoorRdD
namespace Go.Proofs.YtjojihadnplllaaGreatDoor
open Go.RowKit Go Go.Shelf Go.Proofs

/-- A fixture. -/
structure Fix where
  channel : Int
  part : Int
  profile : ByteArray
  universe_ : Int
  address : Int
  phase : Int
  cable : ByteArray
def fixCells (f : Fix) : List Value := [.int .i64 f.channel, .int .i64 f.part, .string f.profile, .int .i64 f.universe_, .int .i64 f.address, .int .i64 f.phase, .string f.cable]
def fix0 : Fix := ⟨0, 0, ⟨#[]⟩, 0, 0, 0, ⟨#[]⟩⟩
def repFix (f : Fix) (_ : World) (v : Value) : Prop := v = .agg (fixCells f).toArray

def unitOf (a b : List UInt8) (ts : List Tok) : Res Fix :=
  if digL a = false ∨ digL b = false then .err (hd ts).pos 4
  else if valL a < 1 ∨ 999 < valL a ∨ valL b < 1 ∨ 64 < valL b then .err (hd ts).pos 2
  else .ok ⟨valL a, valL b, ⟨#[]⟩, 0, 0, 0, ⟨#[]⟩⟩ ts.tail
def unitP (ts : List Tok) : Res Fix :=
  (numberP ts).bind fun s ts1 => match Lib.cut s.data.toList [46] with
    | (a, b, p) => unitOf a (if p = true then b else [49]) ts1

theorem unit_bad {n m : Int} (h : n < 1 ∨ 999 < n ∨ m < 1 ∨ 64 < m) : n < 1 ∨ (¬ n < 1 ∧ 999 < n) ∨ (¬ n < 1 ∧ ¬ 999 < n ∧ m < 1) ∨ (¬ n < 1 ∧ ¬ 999 < n ∧ ¬ m < 1 ∧ 64 < m) := by omega

set_option maxRecDepth 100000 in
set_option maxHeartbeats 4000000 in
theorem unit_any {rb : Nat} {ts : List Tok} {w : World} (h : Rd w rb ts) (hR : Right ts) :
    Calls Tryz.prog 269 #[.pointer (some ⟨rb, 0, none⟩)] w (Post rb w (unitP ts) repFix) := by
  have H := Lib.hid ((St.start h hR (unitP ts)).alloc (fixCells fix0) 26); clear h hR
  go_enter Tryz.func269, Tryz.ntmps269
  go_wp2_with fail
  refine St.number H.out ?_ (by (intro p e w1 hr he; exact ⟨rfl, Post.mkErr hr he⟩))
  intro w1 HK H1
  obtain ⟨⟨a, b, p⟩, hc⟩ : ∃ x, Lib.cut (hd ts).text.data.toList [46] = x := ⟨_, rfl⟩
  have hsz : (hd ts).text.data.toList.length = (hd ts).text.size := rfl
  have hab := cut_sizes hc
  have hs := H1.out.right.hdShort
  rw [hsz] at hab
  have H1' := Lib.hid (H1.out.cast (by rw [hc])); clear H1
  go_wp2_with fail
  refine (cut_any hs H1'.out.rd.laid hc).mono ?_
  rintro e w2 ⟨rfl, hb⟩
  have H2 := Lib.hid (H1'.out.below hb); clear hb H1' hc hsz
  have ha : (⟨a.toArray⟩ : ByteArray).size ≤ 4096 := by show a.toArray.size ≤ _; rw [List.size_toArray]; omega
  have hbs : (⟨b.toArray⟩ : ByteArray).size ≤ 4096 := by show b.toArray.size ≤ _; rw [List.size_toArray]; omega
  clear hab hs
  cases p
  · replace H2 : Hid (St rb w (unitP ts) (unitOf a [49] ts) ts [(w.heap.size, fixCells fix0)] w2) := H2
    clear hbs
    cases hda : digL a
    · have H3 := Lib.hid (H2.out.cast (show unitOf a [49] ts = .err (hd ts).pos 4 from if_pos (Or.inl hda)))
      go_wp2_with fail
      refine (digits_any ⟨a.toArray⟩ _ ha).mono ?_
      rintro e w3 ⟨rfl, hb⟩
      have H4 := Lib.hid (H3.out.below hb); clear hb
      rw [show digL (⟨a.toArray⟩ : ByteArray).data.toList = false from hda]
      go_wp2_with fail
      exact St.fail H4.out (by (intro p e w1 hr he; exact ⟨rfl, Post.mkErr hr he⟩))
    · have hall := digL_all hda
      cases hdb : digL [49]
      · have H3 := Lib.hid (H2.out.cast (show unitOf a [49] ts = .err (hd ts).pos 4 from if_pos (Or.inr hdb)))
        go_wp2_with fail
        refine (digits_any ⟨a.toArray⟩ _ ha).mono ?_
        rintro e w3 ⟨rfl, hb⟩
        have H4 := Lib.hid (H3.out.below hb); clear hb
        rw [show digL (⟨a.toArray⟩ : ByteArray).data.toList = true from hda]
        go_wp2_with fail
        refine (digits_any ⟨#[49]⟩ _ (by decide)).mono ?_
        rintro e w4 ⟨rfl, hb⟩
        have H5 := Lib.hid (H4.out.below hb); clear hb
        rw [show digL (⟨#[49]⟩ : ByteArray).data.toList = false from hdb]
        go_wp2_with fail
        exact St.fail H5.out (by (intro p e w1 hr he; exact ⟨rfl, Post.mkErr hr he⟩))
      · have hallb := digL_all hdb
        have H3 := Lib.hid (H2.out.cast (show unitOf a [49] ts = _ from if_neg (by rw [hda, hdb]; decide)))
        go_wp2_with fail
        refine (digits_any ⟨a.toArray⟩ _ ha).mono ?_
        rintro e w3 ⟨rfl, hb⟩
        have H4 := Lib.hid (H3.out.below hb); clear hb
        rw [show digL (⟨a.toArray⟩ : ByteArray).data.toList = true from hda]
        go_wp2_with fail
        refine (digits_any ⟨#[49]⟩ _ (by decide)).mono ?_
        rintro e w4 ⟨rfl, hb⟩
        have H5 := Lib.hid (H4.out.below hb); clear hb
        rw [show digL (⟨#[49]⟩ : ByteArray).data.toList = true from hdb]
        go_wp2_with fail
        refine (value_any ⟨a.toArray⟩ _ (Nat.le_trans (m := 4096) ha (by omega)) H5.out.rd.laid hall.1 hall.2).mono ?_
        rintro e w5 ⟨rfl, hb⟩
        have H6 := Lib.hid (H5.out.below hb); clear hb
        go_wp2_with fail
        refine (value_any ⟨#[49]⟩ _ (Nat.le_trans (m := 4096) (by decide) (by omega)) H6.out.rd.laid hallb.1 hallb.2).mono ?_
        rintro e w6 ⟨rfl, hb⟩
        have H7 := Lib.hid (H6.out.below hb); clear hb
        rw [show valL (⟨a.toArray⟩ : ByteArray).data.toList = valL a from rfl, show valL (⟨#[49]⟩ : ByteArray).data.toList = valL [49] from rfl]
        clear H2 H3 H4 H5 H6 hall hallb hda hdb
        generalize valL a = n at *
        generalize valL [49] = m at *
        have H8 := Lib.hid (H7.out.alloc (fixCells ⟨n, m, ⟨#[]⟩, 0, 0, 0, ⟨#[]⟩⟩) 26)
        clear H7
        by_cases hbad : n < 1 ∨ 999 < n ∨ m < 1 ∨ 64 < m
        · have H9 := Lib.hid (H8.out.cast (if_pos hbad))
          rcases unit_bad hbad with h1 | ⟨h1, h2⟩ | ⟨h1, h2, h3⟩ | ⟨h1, h2, h3, h4⟩
          · go_wp2_with (((with_reducible refine at_st (ty := 26) ?_); refine wpl_fresh (ty := 26) (cs := ?_) ?_ ?_ ?_ ?_ ?_ ?_; rotate_left; exact rfl; exact rfl; exact rfl; exact size26; exact rfl))
            exact St.fail H9.out (by (intro p e w1 hr he; exact ⟨rfl, Post.mkErr hr he⟩))
          · go_wp2_with (((with_reducible refine at_st (ty := 26) ?_); refine wpl_fresh (ty := 26) (cs := ?_) ?_ ?_ ?_ ?_ ?_ ?_; rotate_left; exact rfl; exact rfl; exact rfl; exact size26; exact rfl))
            exact St.fail H9.out (by (intro p e w1 hr he; exact ⟨rfl, Post.mkErr hr he⟩))
          · go_wp2_with (((with_reducible refine at_st (ty := 26) ?_); refine wpl_fresh (ty := 26) (cs := ?_) ?_ ?_ ?_ ?_ ?_ ?_; rotate_left; exact rfl; exact rfl; exact rfl; exact size26; exact rfl))
            exact St.fail H9.out (by (intro p e w1 hr he; exact ⟨rfl, Post.mkErr hr he⟩))
          · go_wp2_with (((with_reducible refine at_st (ty := 26) ?_); refine wpl_fresh (ty := 26) (cs := ?_) ?_ ?_ ?_ ?_ ?_ ?_; rotate_left; exact rfl; exact rfl; exact rfl; exact size26; exact rfl))
            exact St.fail H9.out (by (intro p e w1 hr he; exact ⟨rfl, Post.mkErr hr he⟩))
        · have H9 := Lib.hid (H8.out.cast (if_neg hbad))
          have h1 : ¬ n < 1 := fun h => hbad (Or.inl h)
          have h2 : ¬ 999 < n := fun h => hbad (Or.inr (Or.inl h))
          have h3 : ¬ m < 1 := fun h => hbad (Or.inr (Or.inr (Or.inl h)))
          have h4 : ¬ 64 < m := fun h => hbad (Or.inr (Or.inr (Or.inr h)))
          clear hbad H8
          go_wp2_with (((with_reducible refine at_st (ty := 26) ?_); refine wpl_fresh (ty := 26) (cs := ?_) ?_ ?_ ?_ ?_ ?_ ?_; rotate_left; exact rfl; exact rfl; exact rfl; exact size26; exact rfl))
          refine St.pass H9.out (by rw [HK.out]; decide) ?_
          intro w7 H10
          go_wp2_with (first | (((with_reducible refine at_ld (ty := 26) ?_); refine wpl_load (ty := 26) H10.out.head ?_ Tryz.underlying26 ?_ ?_ ?_; exact rfl; exact rfl; exact size26)) | (((with_reducible refine at_st (ty := 26) ?_); refine wpl_store (ty := 26) (cs := ?_) H10.out.second ?_ ?_ ?_ ?_ ?_ ?_; rotate_left; exact rfl; exact rfl; exact rfl; exact size26; exact rfl)))
          have H11 := Lib.hid (H10.out.swap.setAll (fixCells ⟨n, m, ⟨#[]⟩, 0, 0, 0, ⟨#[]⟩⟩) rfl)
          refine ret_own H11.out.head 2 26 rfl rfl Tryz.underlying26 rfl size26 rfl ?_
          exact H11.out.done rfl
  · replace H2 : Hid (St rb w (unitP ts) (unitOf a b ts) ts [(w.heap.size, fixCells fix0)] w2) := H2
    cases hda : digL a
    · have H3 := Lib.hid (H2.out.cast (show unitOf a b ts = .err (hd ts).pos 4 from if_pos (Or.inl hda)))
      go_wp2_with fail
      refine (digits_any ⟨a.toArray⟩ _ ha).mono ?_
      rintro e w3 ⟨rfl, hb⟩
      have H4 := Lib.hid (H3.out.below hb); clear hb
      rw [show digL (⟨a.toArray⟩ : ByteArray).data.toList = false from hda]
      go_wp2_with fail
      exact St.fail H4.out (by (intro p e w1 hr he; exact ⟨rfl, Post.mkErr hr he⟩))
    · have hall := digL_all hda
      cases hdb : digL b
      · have H3 := Lib.hid (H2.out.cast (show unitOf a b ts = .err (hd ts).pos 4 from if_pos (Or.inr hdb)))
        go_wp2_with fail
        refine (digits_any ⟨a.toArray⟩ _ ha).mono ?_
        rintro e w3 ⟨rfl, hb⟩
        have H4 := Lib.hid (H3.out.below hb); clear hb
        rw [show digL (⟨a.toArray⟩ : ByteArray).data.toList = true from hda]
        go_wp2_with fail
        refine (digits_any ⟨b.toArray⟩ _ hbs).mono ?_
        rintro e w4 ⟨rfl, hb⟩
        have H5 := Lib.hid (H4.out.below hb); clear hb
        rw [show digL (⟨b.toArray⟩ : ByteArray).data.toList = false from hdb]
        go_wp2_with fail
        exact St.fail H5.out (by (intro p e w1 hr he; exact ⟨rfl, Post.mkErr hr he⟩))
      · have hallb := digL_all hdb
        have H3 := Lib.hid (H2.out.cast (show unitOf a b ts = _ from if_neg (by rw [hda, hdb]; decide)))
        go_wp2_with fail
        refine (digits_any ⟨a.toArray⟩ _ ha).mono ?_
        rintro e w3 ⟨rfl, hb⟩
        have H4 := Lib.hid (H3.out.below hb); clear hb
        rw [show digL (⟨a.toArray⟩ : ByteArray).data.toList = true from hda]
        go_wp2_with fail
        refine (digits_any ⟨b.toArray⟩ _ hbs).mono ?_
        rintro e w4 ⟨rfl, hb⟩
        have H5 := Lib.hid (H4.out.below hb); clear hb
        rw [show digL (⟨b.toArray⟩ : ByteArray).data.toList = true from hdb]
        go_wp2_with fail
        refine (value_any ⟨a.toArray⟩ _ (Nat.le_trans (m := 4096) ha (by omega)) H5.out.rd.laid hall.1 hall.2).mono ?_
        rintro e w5 ⟨rfl, hb⟩
        have H6 := Lib.hid (H5.out.below hb); clear hb
        go_wp2_with fail
        refine (value_any ⟨b.toArray⟩ _ (Nat.le_trans (m := 4096) hbs (by omega)) H6.out.rd.laid hallb.1 hallb.2).mono ?_
        rintro e w6 ⟨rfl, hb⟩
        have H7 := Lib.hid (H6.out.below hb); clear hb
        rw [show valL (⟨a.toArray⟩ : ByteArray).data.toList = valL a from rfl, show valL (⟨b.toArray⟩ : ByteArray).data.toList = valL b from rfl]
        clear H2 H3 H4 H5 H6 hall hallb hda hdb
        generalize valL a = n at *
        generalize valL b = m at *
        have H8 := Lib.hid (H7.out.alloc (fixCells ⟨n, m, ⟨#[]⟩, 0, 0, 0, ⟨#[]⟩⟩) 26)
        clear H7
        by_cases hbad : n < 1 ∨ 999 < n ∨ m < 1 ∨ 64 < m
        · have H9 := Lib.hid (H8.out.cast (if_pos hbad))
          rcases unit_bad hbad with h1 | ⟨h1, h2⟩ | ⟨h1, h2, h3⟩ | ⟨h1, h2, h3, h4⟩
          · go_wp2_with (((with_reducible refine at_st (ty := 26) ?_); refine wpl_fresh (ty := 26) (cs := ?_) ?_ ?_ ?_ ?_ ?_ ?_; rotate_left; exact rfl; exact rfl; exact rfl; exact size26; exact rfl))
            exact St.fail H9.out (by (intro p e w1 hr he; exact ⟨rfl, Post.mkErr hr he⟩))
          · go_wp2_with (((with_reducible refine at_st (ty := 26) ?_); refine wpl_fresh (ty := 26) (cs := ?_) ?_ ?_ ?_ ?_ ?_ ?_; rotate_left; exact rfl; exact rfl; exact rfl; exact size26; exact rfl))
            exact St.fail H9.out (by (intro p e w1 hr he; exact ⟨rfl, Post.mkErr hr he⟩))
          · go_wp2_with (((with_reducible refine at_st (ty := 26) ?_); refine wpl_fresh (ty := 26) (cs := ?_) ?_ ?_ ?_ ?_ ?_ ?_; rotate_left; exact rfl; exact rfl; exact rfl; exact size26; exact rfl))
            exact St.fail H9.out (by (intro p e w1 hr he; exact ⟨rfl, Post.mkErr hr he⟩))
          · go_wp2_with (((with_reducible refine at_st (ty := 26) ?_); refine wpl_fresh (ty := 26) (cs := ?_) ?_ ?_ ?_ ?_ ?_ ?_; rotate_left; exact rfl; exact rfl; exact rfl; exact size26; exact rfl))
            exact St.fail H9.out (by (intro p e w1 hr he; exact ⟨rfl, Post.mkErr hr he⟩))
        · have H9 := Lib.hid (H8.out.cast (if_neg hbad))
          have h1 : ¬ n < 1 := fun h => hbad (Or.inl h)
          have h2 : ¬ 999 < n := fun h => hbad (Or.inr (Or.inl h))
          have h3 : ¬ m < 1 := fun h => hbad (Or.inr (Or.inr (Or.inl h)))
          have h4 : ¬ 64 < m := fun h => hbad (Or.inr (Or.inr (Or.inr h)))
          clear hbad H8
          go_wp2_with (((with_reducible refine at_st (ty := 26) ?_); refine wpl_fresh (ty := 26) (cs := ?_) ?_ ?_ ?_ ?_ ?_ ?_; rotate_left; exact rfl; exact rfl; exact rfl; exact size26; exact rfl))
          refine St.pass H9.out (by rw [HK.out]; decide) ?_
          intro w7 H10
          go_wp2_with (first | (((with_reducible refine at_ld (ty := 26) ?_); refine wpl_load (ty := 26) H10.out.head ?_ Tryz.underlying26 ?_ ?_ ?_; exact rfl; exact rfl; exact size26)) | (((with_reducible refine at_st (ty := 26) ?_); refine wpl_store (ty := 26) (cs := ?_) H10.out.second ?_ ?_ ?_ ?_ ?_ ?_; rotate_left; exact rfl; exact rfl; exact rfl; exact size26; exact rfl)))
          have H11 := Lib.hid (H10.out.swap.setAll (fixCells ⟨n, m, ⟨#[]⟩, 0, 0, 0, ⟨#[]⟩⟩) rfl)
          refine ret_own H11.out.head 2 26 rfl rfl Tryz.underlying26 rfl size26 rfl ?_
          exact H11.out.done rfl
end Go.Proofs.YtjojihadnplllaaGreatDoor
