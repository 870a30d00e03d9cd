/- The chapter's examples (awake of the law of grammar) come out true. -/
import Derived.Test.YtjojihadnplllaaGreatDoorCmJ
import Derived.Test.YtjojihadnplllaaGreatDoorSmB
namespace Go.Proofs.YtjojihadnplllaaGreatDoor
open Go.RowKit Go Go.Shelf Go.Proofs

def Res.val? {α : Type} : Res α → Option α
  | .ok a _ => some a
  | .err _ _ => none
def Res.er? {α : Type} : Res α → Option (Int × Int)
  | .ok _ _ => none
  | .err p e => some (p, e)
theorem parse_val {s : ByteArray} {w : World} {c : Cmd} (h : (readP commandP s).val? = some c) (hs : s.size ≤ 9223372036854775807) (hL : Laid w) :
    Calls Tryz.prog 14 #[.string s] w fun e w' => ∃ sv, e = .returned (.tuple #[.agg (cmdCells c sv).toArray, .int .i64 0, .int .i64 0]) ∧ sv.oneCell' = true ∧ SelRd w' sv c.sel ∧ Below w.heap.size w w' := by
  refine (parse_any s w hs hL).mono fun e w' hp => ?_
  obtain ⟨hb, hp⟩ := hp
  cases hr : readP commandP s with
  | err p er => rw [hr] at h; cases h
  | ok a ts =>
    rw [hr] at h hp
    cases h
    obtain ⟨sv, rfl, hsel⟩ := hp
    exact ⟨sv, rfl, selIs_one hsel, SelRd.of_is hsel, hb⟩
theorem parse_er {s : ByteArray} {w : World} {p er : Int} (h : (readP commandP s).er? = some (p, er)) (hs : s.size ≤ 9223372036854775807) (hL : Laid w) :
    Calls Tryz.prog 14 #[.string s] w fun e w' => e = .returned (.tuple #[.agg zeros.toArray, .int .i64 p, .int .i64 er]) ∧ Below w.heap.size w w' := by
  refine (parse_any s w hs hL).mono fun e w' hp => ?_
  obtain ⟨hb, hp⟩ := hp
  cases hr : readP commandP s with
  | ok a ts => rw [hr] at h; cases h
  | err q eq =>
    rw [hr] at h hp
    cases h
    exact ⟨hp, hb⟩
/-- A guarded load of a whole variable out of one's own block. -/
theorem wpl_loadG {ty : TypeId} {P : Program} {ops : Array Oper} {rest : List Oper} {dst : Option Tmp} {x : Operand} {t : TypeId} {pos : String} {after : Array Edge} {g : Option (Nat × Bool)} {a : Act} {w : World} {Q : Exit → Act → World → Prop} {b : Nat} {cs : List Value} (hw : Own w b cs)
    (hg : Region.wanted { dst := dst, op := .load ty x, type := t, pos := pos, after := after, guard := g } (yielded ops a.tmps) = true)
    (hx : a.eval x = .pointer (some ⟨b, 0, none⟩)) {d : TypeDesc} (hu : P.underlying ty = some d) (hd : d.isRow = true) (hi : (P.info? ty).map (·.size) = some cs.length)
    (h : wpList P ops Q rest (a.put dst (.agg cs.toArray)) w) : wpList P ops Q ({ dst := dst, op := .load ty x, type := t, pos := pos, after := after, guard := g } :: rest) a w :=
  wpList_step fun _ hK => by rw [if_pos hg]; exact wp_load_mid ty x rfl b 0 hx cs d hw.range hu hd hi (hK _ _ h)
theorem at_ldG {ty : TypeId} {P : Program} {ops : Array Oper} {rest : List Oper} {dst : Option Tmp} {x : Operand} {t : TypeId} {pos : String} {after : Array Edge} {g : Option (Nat × Bool)} {a : Act} {w : World} {Q : Exit → Act → World → Prop}
    (h : wpList P ops Q ({ dst := dst, op := .load ty x, type := t, pos := pos, after := after, guard := g } :: rest) a w) : wpList P ops Q ({ dst := dst, op := .load ty x, type := t, pos := pos, after := after, guard := g } :: rest) a w := h

def ax1 : ByteArray := ⟨#[49, 32, 116, 104, 114, 117, 32, 53, 32, 43, 32, 57, 32, 45, 32, 103, 114, 111, 117, 112, 32, 51, 32, 97, 116, 32, 53, 48, 32, 116, 105, 109, 101, 32, 50]⟩
def ax2 : ByteArray := ⟨#[114, 101, 99, 111, 114, 100, 32, 99, 117, 101, 32, 50, 32, 47, 32, 53, 46, 53, 32, 111, 110, 108, 121, 32, 112, 97, 114, 116, 32, 49, 32, 116, 105, 109, 101, 32, 51]⟩
def ax3 : ByteArray := ⟨#[112, 97, 116, 99, 104, 32, 53, 46, 50, 32, 119, 97, 115, 104, 32, 97, 116, 32, 49, 32, 47, 32, 49, 48, 49]⟩
def ac1 : Cmd := { cmd0 with kind := 0, verb := ⟨#[97, 116]⟩, sel := [⟨0, 0, 1, 5⟩, ⟨0, 0, 9, 9⟩, ⟨1, 3, 0, 0⟩], level := 32768, time := 2000 }
def ac2 : Cmd := { cmd0 with kind := 2, verb := ⟨#[114, 101, 99, 111, 114, 100]⟩, object := ⟨#[99, 117, 101]⟩, number := ⟨#[53, 46, 53]⟩, list := 2, level := 1, time := 3000, flags := 1 }
def ac3 : Cmd := { cmd0 with kind := 5, verb := ⟨#[112, 97, 116, 99, 104]⟩, place := ⟨5, 2, ⟨#[119, 97, 115, 104]⟩, 1, 101, 1, ⟨#[]⟩⟩ }
theorem aw1 : (readP commandP ax1).val? = some ac1 := by kernel_rfl
theorem aw2 : (readP commandP ax2).val? = some ac2 := by kernel_rfl
theorem aw3 : (readP commandP ax3).val? = some ac3 := by kernel_rfl
theorem aw4 : (readP commandP ⟨#[103, 111, 32, 48]⟩).er? = some (3, 2) := by kernel_rfl
theorem aw5 : (readP commandP ⟨#[53, 32, 116, 104, 114, 117, 32, 51, 32, 97, 116, 32, 49, 48]⟩).er? = some (7, 9) := by kernel_rfl
theorem aw6 : (readP commandP ⟨#[103, 111]⟩).er? = some (2, 4) := by kernel_rfl

set_option maxRecDepth 100000 in
set_option maxHeartbeats 4000000 in
theorem awake39_any (w : World) (hL : Laid w) : Calls Tryz.prog 13 #[] w fun e w' => e = .returned (.bool true) ∧ Below w.heap.size w w' := by
  have HL := Lib.hid hL
  clear hL
  go_enter Tryz.func13, Tryz.ntmps13
  go_wp2_with fail
  refine (parse_val aw1 (by decide) HL.out).mono ?_
  rintro e w1 ⟨s1, rfl, ho1, hs1, hb1⟩
  have HO1 := Lib.hid (Own.allocNew w1 (cmdCells ac1 s1) 29)
  have hx1 : Below w1.heap.size w1 (w1.alloc (.cells (cmdCells ac1 s1).toArray 29)) := (Below.refl _ _).alloc (Nat.le_refl _) _
  have HS1 := Lib.hid (hs1.below hx1)
  have HB1 := Lib.hid (hb1.trans (hx1.mono hb1.size))
  have HL1 := Lib.hid (HL.out.below (HB1.out.mono HL.out.size))
  have n1 : w.heap.size ≤ w1.heap.size := hb1.size
  clear hs1 hb1 hx1
  go_wp2_with ((with_reducible refine at_st (ty := 29) ?_); refine wpl_fresh (ty := 29) (cs := ?_) ?_ ?_ ?_ ?_ ?_ ?_; rotate_left; exact rfl; exact rfl; exact rfl; exact size29; exact (cmd_one _ ho1))
  generalize w1.alloc (.cells (cmdCells ac1 s1).toArray 29) = W1 at *
  generalize w1.heap.size = d1 at *
  refine (parse_val aw2 (by decide) HL1.out).mono ?_
  rintro e w2 ⟨s2, rfl, ho2, hs2, hb2⟩
  have HO2 := Lib.hid (Own.allocNew w2 (cmdCells ac2 s2) 29)
  have hx2 : Below w2.heap.size w2 (w2.alloc (.cells (cmdCells ac2 s2).toArray 29)) := (Below.refl _ _).alloc (Nat.le_refl _) _
  have hy2 := hb2.trans (hx2.mono hb2.size)
  have HS2 := Lib.hid (hs2.below hx2)
  have HS1' := Lib.hid (HS1.out.below hy2)
  have HO1' := Lib.hid (HO1.out.block hy2.size (hy2.block _ HO1.out.lt))
  have HB2 := Lib.hid (HB1.out.trans (hy2.mono HB1.out.size))
  have HL2 := Lib.hid (HL.out.below (HB2.out.mono HL.out.size))
  clear hs2 hb2 hx2 hy2 HS1 HO1 HB1 HL1
  go_wp2_with ((with_reducible refine at_st (ty := 29) ?_); refine wpl_fresh (ty := 29) (cs := ?_) ?_ ?_ ?_ ?_ ?_ ?_; rotate_left; exact rfl; exact rfl; exact rfl; exact size29; exact (cmd_one _ ho2))
  generalize w2.alloc (.cells (cmdCells ac2 s2).toArray 29) = W2 at *
  generalize w2.heap.size = d2 at *
  refine (parse_val aw3 (by decide) HL2.out).mono ?_
  rintro e w3 ⟨s3, rfl, ho3, hs3, hb3⟩
  have HO3 := Lib.hid (Own.allocNew w3 (cmdCells ac3 s3) 29)
  have hx3 : Below w3.heap.size w3 (w3.alloc (.cells (cmdCells ac3 s3).toArray 29)) := (Below.refl _ _).alloc (Nat.le_refl _) _
  have hy3 := hb3.trans (hx3.mono hb3.size)
  have HS3 := Lib.hid (hs3.below hx3)
  have HS1 := Lib.hid (HS1'.out.below hy3)
  have HO1 := Lib.hid (HO1'.out.block hy3.size (hy3.block _ HO1'.out.lt))
  have HS2' := Lib.hid (HS2.out.below hy3)
  have HO2' := Lib.hid (HO2.out.block hy3.size (hy3.block _ HO2.out.lt))
  have HB3 := Lib.hid (HB2.out.trans (hy3.mono HB2.out.size))
  clear hs3 hb3 hx3 hy3 HS1' HO1' HS2 HO2 HB2 HL2
  go_wp2_with (first | ((with_reducible refine at_st (ty := 29) ?_); refine wpl_fresh (ty := 29) (cs := ?_) ?_ ?_ ?_ ?_ ?_ ?_; rotate_left; exact rfl; exact rfl; exact rfl; exact size29; exact (cmd_one _ ho3)) | ((with_reducible refine at_ldG (ty := 29) ?_); refine wpl_loadG (ty := 29) HO1.out ?_ ?_ Tryz.underlying29 ?_ ?_ ?_; exact rfl; exact rfl; exact rfl; exact size29))
  have hz3 : (w3.alloc (.cells (cmdCells ac3 s3).toArray 29)).heap.size = w3.heap.size + 1 := by simp
  have hN := Own.allocNew (w3.alloc (.cells (cmdCells ac3 s3).toArray 29)) (selsCells ac1.sel) 68
  have hx4 : Below (w3.alloc (.cells (cmdCells ac3 s3).toArray 29)).heap.size (w3.alloc (.cells (cmdCells ac3 s3).toArray 29)) ((w3.alloc (.cells (cmdCells ac3 s3).toArray 29)).alloc (.cells (selsCells ac1.sel).toArray 68)) := (Below.refl _ _).alloc (Nat.le_refl _) _
  rw [hz3] at hN
  have hSN : SelRd ((w3.alloc (.cells (cmdCells ac3 s3).toArray 29)).alloc (.cells (selsCells ac1.sel).toArray 68)) (.slice (some ⟨w3.heap.size + 1, 0, none⟩) 3 3) ac1.sel := ⟨_, 3, rfl, fun _ => ⟨_, 0, rfl, hN.range⟩⟩
  have HS1x := HS1.out.below hx4
  have HX4 := Lib.hid hx4
  clear hN hx4 hz3
  refine (same_true (s1 := s1) (s2 := .slice (some ⟨w3.heap.size + 1, 0, none⟩) 3 3) ac1 HS1x hSN (by decide)).mono ?_
  rintro e w4 ⟨rfl, hb4⟩
  change Below ((w3.alloc (.cells (cmdCells ac3 s3).toArray 29)).alloc (.cells (selsCells ac1.sel).toArray 68)).heap.size ((w3.alloc (.cells (cmdCells ac3 s3).toArray 29)).alloc (.cells (selsCells ac1.sel).toArray 68)) w4 at hb4
  have hy4 := HX4.out.trans (hb4.mono HX4.out.size)
  have HS2 := Lib.hid (HS2'.out.below hy4)
  have HO2 := Lib.hid (HO2'.out.block hy4.size (hy4.block _ HO2'.out.lt))
  have HS3' := Lib.hid (HS3.out.below hy4)
  have HO3' := Lib.hid (HO3.out.block hy4.size (hy4.block _ HO3.out.lt))
  have HB4 := Lib.hid (HB3.out.trans (hy4.mono HB3.out.size))
  clear HS1x hSN HX4 hb4 hy4 HS2' HO2' HS3 HO3 HB3 HS1 HO1
  generalize w3.heap.size = d3 at *
  go_wp2_with ((with_reducible refine at_ldG (ty := 29) ?_); refine wpl_loadG (ty := 29) HO2.out ?_ ?_ Tryz.underlying29 ?_ ?_ ?_; exact rfl; exact rfl; exact rfl; exact size29)
  have hb26 : SelRd w4 (.slice none 0 0) ac2.sel := ⟨none, 0, rfl, fun h => absurd h (by decide)⟩
  refine (same_true (s1 := s2) (s2 := .slice none 0 0) ac2 HS2.out hb26 (by decide)).mono ?_
  clear hb26
  rintro e w5 ⟨rfl, hy5⟩
  have HS3 := Lib.hid (HS3'.out.below hy5)
  have HO3 := Lib.hid (HO3'.out.block hy5.size (hy5.block _ HO3'.out.lt))
  have HB5 := Lib.hid (HB4.out.trans (hy5.mono HB4.out.size))
  clear HS2 HO2 HS3' HO3' HB4 hy5
  go_wp2_with ((with_reducible refine at_ldG (ty := 29) ?_); refine wpl_loadG (ty := 29) HO3.out ?_ ?_ Tryz.underlying29 ?_ ?_ ?_; exact rfl; exact rfl; exact rfl; exact size29)
  have hb37 : SelRd w5 (.slice none 0 0) ac3.sel := ⟨none, 0, rfl, fun h => absurd h (by decide)⟩
  refine (same_true (s1 := s3) (s2 := .slice none 0 0) ac3 HS3.out hb37 (by decide)).mono ?_
  clear hb37
  rintro e w6 ⟨rfl, hy6⟩
  have HB6 := Lib.hid (HB5.out.trans (hy6.mono HB5.out.size))
  have HL6 := Lib.hid (HL.out.below (HB6.out.mono HL.out.size))
  clear HS3 HO3 HB5 hy6
  go_wp2_with fail
  refine (parse_er aw4 (by decide) HL6.out).mono ?_
  rintro e w7 ⟨rfl, hy7⟩
  have hx7 : Below w7.heap.size w7 (w7.alloc (.cells zeros.toArray 29)) := (Below.refl _ _).alloc (Nat.le_refl _) _
  have HB7 := Lib.hid (HB6.out.trans ((hy7.trans (hx7.mono hy7.size)).mono HB6.out.size))
  have HL7 := Lib.hid (HL.out.below (HB7.out.mono HL.out.size))
  clear hy7 hx7 HB6 HL6
  go_wp2_with ((with_reducible refine at_st (ty := 29) ?_); refine wpl_fresh (ty := 29) (cs := ?_) ?_ ?_ ?_ ?_ ?_ ?_; rotate_left; exact rfl; exact rfl; exact rfl; exact size29; exact rfl)
  refine (parse_er aw5 (by decide) HL7.out).mono ?_
  rintro e w8 ⟨rfl, hy8⟩
  have hx8 : Below w8.heap.size w8 (w8.alloc (.cells zeros.toArray 29)) := (Below.refl _ _).alloc (Nat.le_refl _) _
  have HB8 := Lib.hid (HB7.out.trans ((hy8.trans (hx8.mono hy8.size)).mono HB7.out.size))
  have HL8 := Lib.hid (HL.out.below (HB8.out.mono HL.out.size))
  clear hy8 hx8 HB7 HL7
  go_wp2_with ((with_reducible refine at_st (ty := 29) ?_); refine wpl_fresh (ty := 29) (cs := ?_) ?_ ?_ ?_ ?_ ?_ ?_; rotate_left; exact rfl; exact rfl; exact rfl; exact size29; exact rfl)
  refine (parse_er aw6 (by decide) HL8.out).mono ?_
  rintro e w9 ⟨rfl, hy9⟩
  have hx9 : Below w9.heap.size w9 (w9.alloc (.cells zeros.toArray 29)) := (Below.refl _ _).alloc (Nat.le_refl _) _
  have HB9 := Lib.hid (HB8.out.trans ((hy9.trans (hx9.mono hy9.size)).mono HB8.out.size))
  clear hy9 hx9 HB8 HL8
  go_wp2_with ((with_reducible refine at_st (ty := 29) ?_); refine wpl_fresh (ty := 29) (cs := ?_) ?_ ?_ ?_ ?_ ?_ ?_; rotate_left; exact rfl; exact rfl; exact rfl; exact size29; exact rfl)
  go_ret
  exact ⟨rfl, HB9.out⟩
end Go.Proofs.YtjojihadnplllaaGreatDoor
