/- The lexer's one and Word: which texts are single words. -/
import Derived.Test.YtjojihadnplllaaGreatDoorLxC
namespace Go.Proofs.YtjojihadnplllaaGreatDoor
open Go.RowKit Go Go.Shelf Go.Proofs

/-- Is a text one token, but not the end? -/
def oneOk (s : ByteArray) : Bool :=
  match tokNext s 0 with
  | (some t, e) => (t.pos == 0) && ((e : Int) == (s.size : Int)) && (t.kind != 3)
  | (none, _) => false

set_option maxRecDepth 100000 in
set_option maxHeartbeats 4000000 in
theorem one_any (s : ByteArray) (w : World) (hs : s.size ≤ 4096) :
    Calls Tryz.prog 212 #[.string s] w fun e w' => e = .returned (.tuple #[optV (tokNext s 0).1, .bool (oneOk s)]) ∧ Below w.heap.size w w' := by
  obtain ⟨⟨o, e⟩, ht⟩ : ∃ x, tokNext s 0 = x := ⟨_, rfl⟩
  have HT := Lib.hid ht
  have hlr : ∀ W : World, LR (W.alloc (.cells #[.string s, .int .i64 0] 195)) W.heap.size s 0 := fun W =>
    ⟨by simp, by go_simp, by go_simp, by go_simp, by omega, hs⟩
  have HLR := Lib.hid hlr; clear hlr
  cases o with
  | none =>
    have hok := Lib.hid (show oneOk s = false by unfold oneOk; rw [ht])
    rw [hok.out, ht]
    clear ht
    go_enter Tryz.func212, Tryz.ntmps212
    go_wp2_with fail
    refine (token_any (by simpa using HLR.out (w.alloc (Obj.cells #[Value.int IntKind.i64 0, Value.string ⟨#[]⟩, Value.int IntKind.i64 0] 136)))).mono ?_
    rintro e' w1 ⟨rfl, hl1, he1⟩
    have q0 : w1.cell? ⟨w.heap.size, 0, none⟩ = some (.int .i64 0) := he1.cellOf (by omega) (by go_simp)
    have q1 : w1.cell? ⟨w.heap.size, 1, none⟩ = some (.string ⟨#[]⟩) := he1.cellOf (by omega) (by go_simp)
    have q2 : w1.cell? ⟨w.heap.size, 2, none⟩ = some (.int .i64 0) := he1.cellOf (by omega) (by go_simp)
    have qf : ∀ i, w1.frozen? ⟨w.heap.size, i, none⟩ = false := fun i => by
      rw [he1.frozen (p := ⟨w.heap.size, i, none⟩) (by simp; omega) (by show w.heap.size ≠ _; omega)]; go_simp
    have HB1 := Lib.hid (show Below w.heap.size w w1 from ((((Below.refl _ _).alloc (Nat.le_refl _) _).alloc (by simp) _).trans (he1.below (by omega) (by simp; omega))))
    rw [HT.out] at hl1 ⊢
    have e1 := hl1.2.2.1
    have hsz : w.heap.size + 1 < w1.heap.size := hl1.1
    have HL1 := Lib.hid hl1
    clear hl1 he1
    simp only [optV, Option.isSome_none]
    unfold zeroTok
    go_wp2_with fail
    have hs0 : w.heap.size < w1.heap.size := by omega
    have HX := Lib.hid (show Below w1.heap.size w1 (w1.alloc (Obj.cells #[Value.int IntKind.i64 0, Value.string ⟨#[]⟩, Value.int IntKind.i64 0] 136)) from (Below.refl _ _).alloc (Nat.le_refl _) _)
    have HL2 := Lib.hid (HL1.out.below HX.out)
    have p0 : (w1.alloc (Obj.cells #[Value.int IntKind.i64 0, Value.string ⟨#[]⟩, Value.int IntKind.i64 0] 136)).cell? ⟨w1.heap.size, 0, none⟩ = some (Value.int IntKind.i64 0) := by go_simp
    have p1 : (w1.alloc (Obj.cells #[Value.int IntKind.i64 0, Value.string ⟨#[]⟩, Value.int IntKind.i64 0] 136)).cell? ⟨w1.heap.size, 1, none⟩ = some (Value.string ⟨#[]⟩) := by go_simp
    have p2 : (w1.alloc (Obj.cells #[Value.int IntKind.i64 0, Value.string ⟨#[]⟩, Value.int IntKind.i64 0] 136)).cell? ⟨w1.heap.size, 2, none⟩ = some (Value.int IntKind.i64 0) := by go_simp
    have q0' := (HX.out.cell (p := ⟨w.heap.size, 0, none⟩) hs0).trans q0
    have q1' := (HX.out.cell (p := ⟨w.heap.size, 1, none⟩) hs0).trans q1
    have q2' := (HX.out.cell (p := ⟨w.heap.size, 2, none⟩) hs0).trans q2
    have qf0 := (HX.out.frozen (p := ⟨w.heap.size, 0, none⟩) hs0).trans (qf 0)
    have qf1 := (HX.out.frozen (p := ⟨w.heap.size, 1, none⟩) hs0).trans (qf 1)
    have qf2 := (HX.out.frozen (p := ⟨w.heap.size, 2, none⟩) hs0).trans (qf 2)
    have e2 := HL2.out.2.2.1
    have HB2 := Lib.hid (HB1.out.trans (HX.out.mono HB1.out.size))
    clear q0 q1 q2 qf e1 HX HL1 HB1
    generalize w1.alloc (Obj.cells #[Value.int IntKind.i64 0, Value.string ⟨#[]⟩, Value.int IntKind.i64 0] 136) = w2 at *
    generalize w1.heap.size = U at *
    go_region
    go_wp2_with fail
    refine bodyPost_ret (v := .tuple #[.agg #[Value.int IntKind.i64 0, Value.string ⟨#[]⟩, Value.int IntKind.i64 0], .bool false]) (by simp [results, Tryz.results212, go_sem, q0', q1', q2']) rfl ⟨rfl, ?_⟩
    exact (((HB2.out.setCell (Nat.le_refl _) _).setCell (Nat.le_refl _) _).setCell (Nat.le_refl _) _).drew
  | some t =>
    obtain ⟨tk, tt, tp⟩ := t
    have hok := Lib.hid (show oneOk s = ((tp == 0) && ((e : Int) == (s.size : Int)) && (tk != 3)) by unfold oneOk; rw [ht])
    rw [hok.out, ht]
    clear ht
    cases h1 : (tp == 0)
    · simp only [Bool.false_and]
      go_enter Tryz.func212, Tryz.ntmps212
      go_wp2_with fail
      refine (token_any (by simpa using HLR.out (w.alloc (Obj.cells #[Value.int IntKind.i64 0, Value.string ⟨#[]⟩, Value.int IntKind.i64 0] 136)))).mono ?_
      rintro e' w1 ⟨rfl, hl1, he1⟩
      have q0 : w1.cell? ⟨w.heap.size, 0, none⟩ = some (.int .i64 0) := he1.cellOf (by omega) (by go_simp)
      have q1 : w1.cell? ⟨w.heap.size, 1, none⟩ = some (.string ⟨#[]⟩) := he1.cellOf (by omega) (by go_simp)
      have q2 : w1.cell? ⟨w.heap.size, 2, none⟩ = some (.int .i64 0) := he1.cellOf (by omega) (by go_simp)
      have qf : ∀ i, w1.frozen? ⟨w.heap.size, i, none⟩ = false := fun i => by
        rw [he1.frozen (p := ⟨w.heap.size, i, none⟩) (by simp; omega) (by show w.heap.size ≠ _; omega)]; go_simp
      have HB1 := Lib.hid (show Below w.heap.size w w1 from ((((Below.refl _ _).alloc (Nat.le_refl _) _).alloc (by simp) _).trans (he1.below (by omega) (by simp; omega))))
      rw [HT.out] at hl1 ⊢
      have e1 := hl1.2.2.1
      have hsz : w.heap.size + 1 < w1.heap.size := hl1.1
      have HL1 := Lib.hid hl1
      clear hl1 he1
      simp only [optV, Option.isSome_some]
      go_wp2_with fail
      have hs0 : w.heap.size < w1.heap.size := by omega
      have HX := Lib.hid (show Below w1.heap.size w1 (w1.alloc (Obj.cells #[Value.int IntKind.i64 tk, Value.string tt, Value.int IntKind.i64 tp] 136)) from (Below.refl _ _).alloc (Nat.le_refl _) _)
      have HL2 := Lib.hid (HL1.out.below HX.out)
      have p0 : (w1.alloc (Obj.cells #[Value.int IntKind.i64 tk, Value.string tt, Value.int IntKind.i64 tp] 136)).cell? ⟨w1.heap.size, 0, none⟩ = some (Value.int IntKind.i64 tk) := by go_simp
      have p1 : (w1.alloc (Obj.cells #[Value.int IntKind.i64 tk, Value.string tt, Value.int IntKind.i64 tp] 136)).cell? ⟨w1.heap.size, 1, none⟩ = some (Value.string tt) := by go_simp
      have p2 : (w1.alloc (Obj.cells #[Value.int IntKind.i64 tk, Value.string tt, Value.int IntKind.i64 tp] 136)).cell? ⟨w1.heap.size, 2, none⟩ = some (Value.int IntKind.i64 tp) := by go_simp
      have q0' := (HX.out.cell (p := ⟨w.heap.size, 0, none⟩) hs0).trans q0
      have q1' := (HX.out.cell (p := ⟨w.heap.size, 1, none⟩) hs0).trans q1
      have q2' := (HX.out.cell (p := ⟨w.heap.size, 2, none⟩) hs0).trans q2
      have qf0 := (HX.out.frozen (p := ⟨w.heap.size, 0, none⟩) hs0).trans (qf 0)
      have qf1 := (HX.out.frozen (p := ⟨w.heap.size, 1, none⟩) hs0).trans (qf 1)
      have qf2 := (HX.out.frozen (p := ⟨w.heap.size, 2, none⟩) hs0).trans (qf 2)
      have e2 := HL2.out.2.2.1
      have HB2 := Lib.hid (HB1.out.trans (HX.out.mono HB1.out.size))
      clear q0 q1 q2 qf e1 HX HL1 HB1
      generalize w1.alloc (Obj.cells #[Value.int IntKind.i64 tk, Value.string tt, Value.int IntKind.i64 tp] 136) = w2 at *
      generalize w1.heap.size = U at *
      go_region
      go_wp2_with fail
      refine bodyPost_ret (v := .tuple #[.agg #[Value.int IntKind.i64 tk, Value.string tt, Value.int IntKind.i64 tp], .bool false]) (by simp [results, Tryz.results212, go_sem, q0', q1', q2']) rfl ⟨rfl, ?_⟩
      exact (((HB2.out.setCell (Nat.le_refl _) _).setCell (Nat.le_refl _) _).setCell (Nat.le_refl _) _).drew
    · simp only [Bool.true_and]
      cases h2 : ((e : Int) == (s.size : Int))
      · simp only [Bool.false_and]
        go_enter Tryz.func212, Tryz.ntmps212
        go_wp2_with fail
        refine (token_any (by simpa using HLR.out (w.alloc (Obj.cells #[Value.int IntKind.i64 0, Value.string ⟨#[]⟩, Value.int IntKind.i64 0] 136)))).mono ?_
        rintro e' w1 ⟨rfl, hl1, he1⟩
        have q0 : w1.cell? ⟨w.heap.size, 0, none⟩ = some (.int .i64 0) := he1.cellOf (by omega) (by go_simp)
        have q1 : w1.cell? ⟨w.heap.size, 1, none⟩ = some (.string ⟨#[]⟩) := he1.cellOf (by omega) (by go_simp)
        have q2 : w1.cell? ⟨w.heap.size, 2, none⟩ = some (.int .i64 0) := he1.cellOf (by omega) (by go_simp)
        have qf : ∀ i, w1.frozen? ⟨w.heap.size, i, none⟩ = false := fun i => by
          rw [he1.frozen (p := ⟨w.heap.size, i, none⟩) (by simp; omega) (by show w.heap.size ≠ _; omega)]; go_simp
        have HB1 := Lib.hid (show Below w.heap.size w w1 from ((((Below.refl _ _).alloc (Nat.le_refl _) _).alloc (by simp) _).trans (he1.below (by omega) (by simp; omega))))
        rw [HT.out] at hl1 ⊢
        have e1 := hl1.2.2.1
        have hsz : w.heap.size + 1 < w1.heap.size := hl1.1
        have HL1 := Lib.hid hl1
        clear hl1 he1
        simp only [optV, Option.isSome_some]
        go_wp2_with fail
        have hs0 : w.heap.size < w1.heap.size := by omega
        have HX := Lib.hid (show Below w1.heap.size w1 (w1.alloc (Obj.cells #[Value.int IntKind.i64 tk, Value.string tt, Value.int IntKind.i64 tp] 136)) from (Below.refl _ _).alloc (Nat.le_refl _) _)
        have HL2 := Lib.hid (HL1.out.below HX.out)
        have p0 : (w1.alloc (Obj.cells #[Value.int IntKind.i64 tk, Value.string tt, Value.int IntKind.i64 tp] 136)).cell? ⟨w1.heap.size, 0, none⟩ = some (Value.int IntKind.i64 tk) := by go_simp
        have p1 : (w1.alloc (Obj.cells #[Value.int IntKind.i64 tk, Value.string tt, Value.int IntKind.i64 tp] 136)).cell? ⟨w1.heap.size, 1, none⟩ = some (Value.string tt) := by go_simp
        have p2 : (w1.alloc (Obj.cells #[Value.int IntKind.i64 tk, Value.string tt, Value.int IntKind.i64 tp] 136)).cell? ⟨w1.heap.size, 2, none⟩ = some (Value.int IntKind.i64 tp) := by go_simp
        have q0' := (HX.out.cell (p := ⟨w.heap.size, 0, none⟩) hs0).trans q0
        have q1' := (HX.out.cell (p := ⟨w.heap.size, 1, none⟩) hs0).trans q1
        have q2' := (HX.out.cell (p := ⟨w.heap.size, 2, none⟩) hs0).trans q2
        have qf0 := (HX.out.frozen (p := ⟨w.heap.size, 0, none⟩) hs0).trans (qf 0)
        have qf1 := (HX.out.frozen (p := ⟨w.heap.size, 1, none⟩) hs0).trans (qf 1)
        have qf2 := (HX.out.frozen (p := ⟨w.heap.size, 2, none⟩) hs0).trans (qf 2)
        have e2 := HL2.out.2.2.1
        have HB2 := Lib.hid (HB1.out.trans (HX.out.mono HB1.out.size))
        clear q0 q1 q2 qf e1 HX HL1 HB1
        generalize w1.alloc (Obj.cells #[Value.int IntKind.i64 tk, Value.string tt, Value.int IntKind.i64 tp] 136) = w2 at *
        generalize w1.heap.size = U at *
        go_region
        go_wp2_with fail
        refine bodyPost_ret (v := .tuple #[.agg #[Value.int IntKind.i64 tk, Value.string tt, Value.int IntKind.i64 tp], .bool false]) (by simp [results, Tryz.results212, go_sem, q0', q1', q2']) rfl ⟨rfl, ?_⟩
        exact (((HB2.out.setCell (Nat.le_refl _) _).setCell (Nat.le_refl _) _).setCell (Nat.le_refl _) _).drew
      · simp only [Bool.true_and]
        go_enter Tryz.func212, Tryz.ntmps212
        go_wp2_with fail
        refine (token_any (by simpa using HLR.out (w.alloc (Obj.cells #[Value.int IntKind.i64 0, Value.string ⟨#[]⟩, Value.int IntKind.i64 0] 136)))).mono ?_
        rintro e' w1 ⟨rfl, hl1, he1⟩
        have q0 : w1.cell? ⟨w.heap.size, 0, none⟩ = some (.int .i64 0) := he1.cellOf (by omega) (by go_simp)
        have q1 : w1.cell? ⟨w.heap.size, 1, none⟩ = some (.string ⟨#[]⟩) := he1.cellOf (by omega) (by go_simp)
        have q2 : w1.cell? ⟨w.heap.size, 2, none⟩ = some (.int .i64 0) := he1.cellOf (by omega) (by go_simp)
        have qf : ∀ i, w1.frozen? ⟨w.heap.size, i, none⟩ = false := fun i => by
          rw [he1.frozen (p := ⟨w.heap.size, i, none⟩) (by simp; omega) (by show w.heap.size ≠ _; omega)]; go_simp
        have HB1 := Lib.hid (show Below w.heap.size w w1 from ((((Below.refl _ _).alloc (Nat.le_refl _) _).alloc (by simp) _).trans (he1.below (by omega) (by simp; omega))))
        rw [HT.out] at hl1 ⊢
        have e1 := hl1.2.2.1
        have hsz : w.heap.size + 1 < w1.heap.size := hl1.1
        have HL1 := Lib.hid hl1
        clear hl1 he1
        simp only [optV, Option.isSome_some]
        go_wp2_with fail
        have hs0 : w.heap.size < w1.heap.size := by omega
        have HX := Lib.hid (show Below w1.heap.size w1 (w1.alloc (Obj.cells #[Value.int IntKind.i64 tk, Value.string tt, Value.int IntKind.i64 tp] 136)) from (Below.refl _ _).alloc (Nat.le_refl _) _)
        have HL2 := Lib.hid (HL1.out.below HX.out)
        have p0 : (w1.alloc (Obj.cells #[Value.int IntKind.i64 tk, Value.string tt, Value.int IntKind.i64 tp] 136)).cell? ⟨w1.heap.size, 0, none⟩ = some (Value.int IntKind.i64 tk) := by go_simp
        have p1 : (w1.alloc (Obj.cells #[Value.int IntKind.i64 tk, Value.string tt, Value.int IntKind.i64 tp] 136)).cell? ⟨w1.heap.size, 1, none⟩ = some (Value.string tt) := by go_simp
        have p2 : (w1.alloc (Obj.cells #[Value.int IntKind.i64 tk, Value.string tt, Value.int IntKind.i64 tp] 136)).cell? ⟨w1.heap.size, 2, none⟩ = some (Value.int IntKind.i64 tp) := by go_simp
        have q0' := (HX.out.cell (p := ⟨w.heap.size, 0, none⟩) hs0).trans q0
        have q1' := (HX.out.cell (p := ⟨w.heap.size, 1, none⟩) hs0).trans q1
        have q2' := (HX.out.cell (p := ⟨w.heap.size, 2, none⟩) hs0).trans q2
        have qf0 := (HX.out.frozen (p := ⟨w.heap.size, 0, none⟩) hs0).trans (qf 0)
        have qf1 := (HX.out.frozen (p := ⟨w.heap.size, 1, none⟩) hs0).trans (qf 1)
        have qf2 := (HX.out.frozen (p := ⟨w.heap.size, 2, none⟩) hs0).trans (qf 2)
        have e2 := HL2.out.2.2.1
        have HB2 := Lib.hid (HB1.out.trans (HX.out.mono HB1.out.size))
        clear q0 q1 q2 qf e1 HX HL1 HB1
        generalize w1.alloc (Obj.cells #[Value.int IntKind.i64 tk, Value.string tt, Value.int IntKind.i64 tp] 136) = w2 at *
        generalize w1.heap.size = U at *
        go_region
        go_wp2_with fail
        refine bodyPost_ret (v := .tuple #[.agg #[Value.int IntKind.i64 tk, Value.string tt, Value.int IntKind.i64 tp], .bool (tk != 3)]) (by simp [results, Tryz.results212, go_sem, q0', q1', q2']) rfl ⟨rfl, ?_⟩
        exact (((HB2.out.setCell (Nat.le_refl _) _).setCell (Nat.le_refl _) _).setCell (Nat.le_refl _) _).drew

/-- lexer.Word: 0, or the error. -/
def lexWord (s : ByteArray) : Int :=
  match tokNext s 0 with
  | (some t, _) => if oneOk s = true ∧ t.kind = 0 ∧ t.text.data.toList = s.data.toList ∧ s.data.toList.headD 0 ≠ 34 then (if 24 < s.size then 13 else 0) else 8
  | (none, _) => 8

theorem oneOk_pos {s : ByteArray} {t : Tok} {e : Nat} (h : tokNext s 0 = (some t, e)) (hok : oneOk s = true) : 0 < s.size := by
  unfold oneOk at hok
  rw [h] at hok
  simp only [Bool.and_eq_true] at hok
  rcases Nat.eq_zero_or_pos s.size with hz | hz
  · exfalso
    have hk : t.kind = 3 := by
      unfold tokNext at h
      have : s.data.toList = [] := List.length_eq_zero_iff.1 hz
      simp only [tokFrom, this] at h
      simp at h
      rw [← h.1]
    have := hok.2
    rw [hk] at this
    exact absurd this (by decide)
  · exact hz

set_option maxRecDepth 100000 in
set_option maxHeartbeats 4000000 in
theorem lword_any (s : ByteArray) (w : World) (hs : s.size ≤ 4096) :
    Calls Tryz.prog 127 #[.string s] w fun e w' => e = .returned (.int .i64 (lexWord s)) ∧ Below w.heap.size w w' := by
  obtain ⟨⟨o, e⟩, ht⟩ : ∃ x, tokNext s 0 = x := ⟨_, rfl⟩
  have HT := Lib.hid ht
  cases o with
  | none =>
    have hz := Lib.hid (show lexWord s = 8 by unfold lexWord; rw [ht])
    have hok := Lib.hid (show oneOk s = false by unfold oneOk; rw [ht])
    clear ht
    go_enter Tryz.func127, Tryz.ntmps127
    go_wp2_with fail
    refine (one_any s _ hs).mono ?_
    rintro e' w1 ⟨rfl, hb1⟩
    rw [HT.out, hok.out]
    simp only [optV]
    unfold zeroTok
    have HB1 := Lib.hid hb1; clear hb1
    go_wp2_with fail
    go_ret
    rw [hz.out]
    exact ⟨rfl, HB1.out.alloc HB1.out.size _⟩
  | some t =>
    obtain ⟨tk, tt, tp⟩ := t
    have hz := Lib.hid (show lexWord s = if oneOk s = true ∧ tk = 0 ∧ tt.data.toList = s.data.toList ∧ s.data.toList.headD 0 ≠ 34 then (if 24 < s.size then 13 else 0) else 8 by unfold lexWord; rw [ht])
    have hpos := fun h => oneOk_pos ht h
    have HP := Lib.hid hpos
    clear ht hpos
    by_cases hok : oneOk s = true
    · have hsz := HP.out hok
      have HOK := Lib.hid hok; clear hok
      by_cases hk : tk = 0
      · have hk' : (tk != 0) = false := by rw [hk]; rfl
        have HK := Lib.hid hk; clear hk
        by_cases he : tt.toList = s.toList
        · have he' : (tt.toList == s.toList) = true := by simpa using he
          have HE := Lib.hid (show tt.data.toList = s.data.toList by rw [← ByteArray.toList_eq, ← ByteArray.toList_eq]; exact he)
          clear he
          by_cases hq : s.data.toList.headD 0 = 34
          · have hz8 := Lib.hid (hz.out.trans (if_neg (by rintro ⟨_, _, _, h⟩; exact h hq)))
            have hq' : ((s[0].toNat : Int) == 34) = true := by rw [bytes_get s hsz, hq]; rfl
            clear hq
            go_enter Tryz.func127, Tryz.ntmps127
            go_wp2_with fail
            refine (one_any s _ hs).mono ?_
            rintro e' w1 ⟨rfl, hb1⟩
            rw [HT.out, HOK.out]
            simp only [optV]
            have HB1 := Lib.hid hb1; clear hb1
            go_wp2_with fail
            go_ret
            rw [hz8.out]
            exact ⟨rfl, HB1.out.alloc HB1.out.size _⟩
          · have hz8 := Lib.hid (hz.out.trans (if_pos ⟨HOK.out, HK.out, HE.out, hq⟩))
            have hq' : ((s[0].toNat : Int) == 34) = false := by
              rw [bytes_get s hsz]; simp; intro h; exact hq (UInt8.toNat_inj.1 (show (s.data.toList.headD 0).toNat = 34 by simp; omega))
            clear hq
            by_cases h24 : 24 < s.size
            · have HR := Lib.hid (hz8.out.trans (if_pos h24))
              go_enter Tryz.func127, Tryz.ntmps127
              go_wp2_with fail
              refine (one_any s _ hs).mono ?_
              rintro e' w1 ⟨rfl, hb1⟩
              rw [HT.out, HOK.out]
              simp only [optV]
              have HB1 := Lib.hid hb1; clear hb1
              go_wp2_with fail
              go_ret
              rw [HR.out]
              exact ⟨rfl, HB1.out.alloc HB1.out.size _⟩
            · have HR := Lib.hid (hz8.out.trans (if_neg h24))
              go_enter Tryz.func127, Tryz.ntmps127
              go_wp2_with fail
              refine (one_any s _ hs).mono ?_
              rintro e' w1 ⟨rfl, hb1⟩
              rw [HT.out, HOK.out]
              simp only [optV]
              have HB1 := Lib.hid hb1; clear hb1
              go_wp2_with fail
              go_ret
              rw [HR.out]
              exact ⟨rfl, HB1.out.alloc HB1.out.size _⟩
        · have he' : (tt.toList == s.toList) = false := by simpa using he
          have hz8 := Lib.hid (hz.out.trans (if_neg (by rintro ⟨_, _, h, _⟩; exact he (by rw [ByteArray.toList_eq, ByteArray.toList_eq]; exact h))))
          clear he
          go_enter Tryz.func127, Tryz.ntmps127
          go_wp2_with fail
          refine (one_any s _ hs).mono ?_
          rintro e' w1 ⟨rfl, hb1⟩
          rw [HT.out, HOK.out]
          simp only [optV]
          have HB1 := Lib.hid hb1; clear hb1
          go_wp2_with fail
          go_ret
          rw [hz8.out]
          exact ⟨rfl, HB1.out.alloc HB1.out.size _⟩
      · have hk' : (tk != 0) = true := by simpa using hk
        have hz8 := Lib.hid (hz.out.trans (if_neg (by rintro ⟨_, h, _⟩; exact hk h)))
        clear hk
        go_enter Tryz.func127, Tryz.ntmps127
        go_wp2_with fail
        refine (one_any s _ hs).mono ?_
        rintro e' w1 ⟨rfl, hb1⟩
        rw [HT.out, HOK.out]
        simp only [optV]
        have HB1 := Lib.hid hb1; clear hb1
        go_wp2_with fail
        go_ret
        rw [hz8.out]
        exact ⟨rfl, HB1.out.alloc HB1.out.size _⟩
    · have hz8 := Lib.hid (hz.out.trans (if_neg (by rintro ⟨h, _⟩; exact hok h)))
      have HOK := Lib.hid (show oneOk s = false by simpa using hok)
      clear hok
      go_enter Tryz.func127, Tryz.ntmps127
      go_wp2_with fail
      refine (one_any s _ hs).mono ?_
      rintro e' w1 ⟨rfl, hb1⟩
      rw [HT.out, HOK.out]
      simp only [optV]
      have HB1 := Lib.hid hb1; clear hb1
      go_wp2_with fail
      go_ret
      rw [hz8.out]
      exact ⟨rfl, HB1.out.alloc HB1.out.size _⟩
end Go.Proofs.YtjojihadnplllaaGreatDoor
