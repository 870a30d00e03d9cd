/- The lexer's token: the token that begins at a place, and the place behind it. -/
import Derived.Test.YtjojihadnplllaaGreatDoorLxB
import Derived.BigRegion
namespace Go.Proofs.YtjojihadnplllaaGreatDoor
open Go.RowKit Go Go.Shelf Go.Proofs

theorem Ext.cellOf {rb b o : Nat} {w w' : World} {v : Value} (h : Ext rb w w') (hr : b ≠ rb) (hc : w.cell? ⟨b, o, none⟩ = some v) : w'.cell? ⟨b, o, none⟩ = some v := by
  rw [h.cell (p := ⟨b, o, none⟩) (lt_of_cell hc) hr]; exact hc

set_option maxRecDepth 100000 in
set_option maxHeartbeats 1000000 in
/-- The closure that makes a token. -/
theorem made_any {P F rb : Nat} {s : ByteArray} {f k : Nat} (kind : Int) {w : World} (hP : w.cell? ⟨P, 0, none⟩ = some (.pointer (some ⟨rb, 0, none⟩))) (hF : w.cell? ⟨F, 0, none⟩ = some (.int .i64 f)) (h : LR w rb s k) (hfk : f ≤ k) :
    Calls Tryz.prog 255 #[.int .i64 kind, .pointer (some ⟨P, 0, none⟩), .pointer (some ⟨F, 0, none⟩)] w fun e w' =>
      e = .returned (.tuple #[.agg #[.int .i64 kind, .string (s.extract f k), .int .i64 f], .bool true]) ∧ Below w.heap.size w w' := by
  obtain ⟨h0, h1, h2, h3, h4, h5⟩ := h
  have hPs := lt_of_cell hP
  have hFs := lt_of_cell hF
  clear h3
  go_enter Tryz.func255, Tryz.ntmps255
  go_wp2_with fail
  go_region
  go_wp2_with fail
  refine bodyPost_ret (v := .tuple #[.agg #[.int .i64 kind, .string (s.extract f k), .int .i64 f], .bool true]) (by simp [results, Tryz.results255, go_sem]) rfl ⟨rfl, ?_⟩
  exact ((Below.refl _ _).alloc (Nat.le_refl _) _).drew

def zeroTok : Value := .agg #[.int .i64 0, .string ⟨#[]⟩, .int .i64 0]
/-- The token that begins at a place behind blanks (none: a fault), and the place behind it. -/
def tokFrom (s : ByteArray) (f : Nat) : Option Tok × Nat :=
  let l := s.data.toList
  match l[f]? with
  | none => (some ⟨3, s.extract f f, f⟩, f)
  | some c =>
    if isLet c = true then
      let e := f + runLen isWrd (l.drop f)
      (some ⟨0, ⟨(lowL (s.extract f e).data.toList).toArray⟩, f⟩, e)
    else if c = 34 then
      let e := f + 1 + runLen isPln (l.drop (f + 1))
      if atIs (· == 34) l e = true then (some ⟨0, s.extract f (e + 1), f⟩, e + 1) else (none, f)
    else if isDig c = true then
      let e := f + runLen isDig (l.drop f)
      if (atIs (· == 46) l e && atIs isDig l (e + 1)) = true then
        let e2 := e + 1 + runLen isDig (l.drop (e + 1))
        (some ⟨1, s.extract f e2, f⟩, e2)
      else (some ⟨1, s.extract f e, f⟩, e)
    else if isSgn c = true then (some ⟨2, s.extract f (f + 1), f⟩, f + 1)
    else (none, f)
/-- The next token. -/
def tokNext (s : ByteArray) (k : Nat) : Option Tok × Nat := tokFrom s (k + runLen (· == 32) (s.data.toList.drop k))
/-- A token, or none, as a value. -/
def optV : Option Tok → Value
  | some t => .agg #[.int .i64 t.kind, .string t.text, .int .i64 t.pos]
  | none => zeroTok

theorem runLen_le (p : UInt8 → Bool) (s : ByteArray) (k : Nat) (hk : k ≤ s.size) : k + runLen p (s.data.toList.drop k) ≤ s.size := by
  have h := takeWhile_len_le p (s.data.toList.drop k)
  rw [List.length_drop] at h
  have : s.data.toList.length = s.size := rfl
  unfold runLen; omega

theorem tokFrom_end (s : ByteArray) : tokFrom s s.size = (some ⟨3, s.extract s.size s.size, s.size⟩, s.size) := by
  have h : s.data.toList[s.size]? = none := List.getElem?_eq_none (Nat.le_refl _)
  simp only [tokFrom, h]
theorem tokFrom_let {s : ByteArray} {f : Nat} {c : UInt8} (hc : s.data.toList[f]? = some c) (h : isLet c = true) :
    tokFrom s f = (some ⟨0, ⟨(lowL (s.extract f (f + runLen isWrd (s.data.toList.drop f))).data.toList).toArray⟩, f⟩, f + runLen isWrd (s.data.toList.drop f)) := by
  simp only [tokFrom, hc, if_pos h]
theorem tokFrom_quote {s : ByteArray} {f : Nat} {c : UInt8} (hc : s.data.toList[f]? = some c) (h : ¬ isLet c = true) (h2 : c = 34) :
    tokFrom s f = if atIs (· == 34) s.data.toList (f + 1 + runLen isPln (s.data.toList.drop (f + 1))) = true then (some ⟨0, s.extract f (f + 1 + runLen isPln (s.data.toList.drop (f + 1)) + 1), f⟩, f + 1 + runLen isPln (s.data.toList.drop (f + 1)) + 1) else (none, f) := by
  simp only [tokFrom, hc, if_neg h, if_pos h2]
theorem tokFrom_dig {s : ByteArray} {f : Nat} {c : UInt8} (hc : s.data.toList[f]? = some c) (h : ¬ isLet c = true) (h2 : ¬ c = 34) (h3 : isDig c = true) :
    tokFrom s f = if (atIs (· == 46) s.data.toList (f + runLen isDig (s.data.toList.drop f)) && atIs isDig s.data.toList (f + runLen isDig (s.data.toList.drop f) + 1)) = true then
      (some ⟨1, s.extract f (f + runLen isDig (s.data.toList.drop f) + 1 + runLen isDig (s.data.toList.drop (f + runLen isDig (s.data.toList.drop f) + 1))), f⟩, f + runLen isDig (s.data.toList.drop f) + 1 + runLen isDig (s.data.toList.drop (f + runLen isDig (s.data.toList.drop f) + 1)))
      else (some ⟨1, s.extract f (f + runLen isDig (s.data.toList.drop f)), f⟩, f + runLen isDig (s.data.toList.drop f)) := by
  simp only [tokFrom, hc, if_neg h, if_neg h2, if_pos h3]
theorem tokFrom_sgn {s : ByteArray} {f : Nat} {c : UInt8} (hc : s.data.toList[f]? = some c) (h : ¬ isLet c = true) (h2 : ¬ c = 34) (h3 : ¬ isDig c = true) (h4 : isSgn c = true) :
    tokFrom s f = (some ⟨2, s.extract f (f + 1), f⟩, f + 1) := by
  simp only [tokFrom, hc, if_neg h, if_neg h2, if_neg h3, if_pos h4]
theorem tokFrom_none {s : ByteArray} {f : Nat} {c : UInt8} (hc : s.data.toList[f]? = some c) (h : ¬ isLet c = true) (h2 : ¬ c = 34) (h3 : ¬ isDig c = true) (h4 : ¬ isSgn c = true) :
    tokFrom s f = (none, f) := by
  simp only [tokFrom, hc, if_neg h, if_neg h2, if_neg h3, if_neg h4]

theorem LR.other {w : World} {rb : Nat} {s : ByteArray} {k : Nat} (h : LR w rb s k) {p : Addr} (hp : p.block ≠ rb) (v : Value) : LR (w.setCell p v) rb s k := by
  obtain ⟨h0, h1, h2, h3, h4⟩ := h
  refine ⟨by simpa using h0, ?_, ?_, by simpa using h3, h4⟩
  · rw [World.cell?_setCell_other _ _ _ _ (fun e => hp (by rw [e]))]; exact h1
  · rw [World.cell?_setCell_other _ _ _ _ (fun e => hp (by rw [e]))]; exact h2
/-- Where token has come to: its captured variables, its result's cells, the reader. -/
structure TS (w : World) (rb P F : Nat) (s : ByteArray) (f k : Nat) : Prop where
  cP : w.cell? ⟨P, 0, none⟩ = some (.pointer (some ⟨rb, 0, none⟩))
  cF : w.cell? ⟨F, 0, none⟩ = some (.int .i64 f)
  lr : LR w rb s k
  c0 : w.cell? ⟨P + 1, 0, none⟩ = some (.int .i64 0)
  c1 : w.cell? ⟨P + 1, 1, none⟩ = some (.string ⟨#[]⟩)
  c2 : w.cell? ⟨P + 1, 2, none⟩ = some (.int .i64 0)
  fr : ∀ i, w.frozen? ⟨P + 1, i, none⟩ = false
  rP : rb < P
  PF : P + 1 < F
  sF : F < w.heap.size
theorem TS.ext {w w' : World} {rb P F : Nat} {s : ByteArray} {f k k' : Nat} (h : TS w rb P F s f k) (he : Ext rb w w') (hl : LR w' rb s k') : TS w' rb P F s f k' := by
  have h1 := h.rP
  have h2 := h.PF
  have h3 := h.sF
  exact ⟨he.cellOf (by omega) h.cP, he.cellOf (by omega) h.cF, hl, he.cellOf (by omega) h.c0, he.cellOf (by omega) h.c1, he.cellOf (by omega) h.c2,
    fun i => by rw [he.frozen (p := ⟨P + 1, i, none⟩) (by show P + 1 < _; omega) (by show P + 1 ≠ rb; omega)]; exact h.fr i, h1, h2, Nat.lt_of_lt_of_le h3 he.size⟩
theorem TS.below {w w' : World} {rb P F : Nat} {s : ByteArray} {f k : Nat} (h : TS w rb P F s f k) (hb : Below w.heap.size w w') : TS w' rb P F s f k :=
  h.ext (Ext.of_below hb) (h.lr.below hb)
theorem TS.fin {w w0 : World} {rb P F : Nat} {s : ByteArray} {f k : Nat} (h : TS w rb P F s f k) (he : Ext rb w0 w) (hP : w0.heap.size ≤ P) (a b c : Value) :
    LR (((w.setCell ⟨P + 1, 0, none⟩ a).setCell ⟨P + 1, 1, none⟩ b).setCell ⟨P + 1, 2, none⟩ c) rb s k ∧ Ext rb w0 (((w.setCell ⟨P + 1, 0, none⟩ a).setCell ⟨P + 1, 1, none⟩ b).setCell ⟨P + 1, 2, none⟩ c) := by
  have h1 := h.rP
  have hne : P + 1 ≠ rb := by omega
  have hge : w0.heap.size ≤ P + 1 := by omega
  exact ⟨((h.lr.other hne _).other hne _).other hne _, ((he.setCell (Or.inr hge) _).setCell (Or.inr hge) _).setCell (Or.inr hge) _⟩
theorem TS.step {w : World} {rb P F : Nat} {s : ByteArray} {f k : Nat} (h : TS w rb P F s f k) (hk : k + 1 ≤ s.size) :
    TS (w.setCell ⟨rb, 1, none⟩ (.int .i64 ((k : Int) + 1))) rb P F s f (k + 1) ∧ Ext rb w (w.setCell ⟨rb, 1, none⟩ (.int .i64 ((k : Int) + 1))) :=
  have e : ((k : Int) + 1) = ((k + 1 : Nat) : Int) := by omega
  have he := (Ext.refl rb w).setCell (p := ⟨rb, 1, none⟩) (Or.inl rfl) (.int .i64 ((k : Int) + 1))
  ⟨h.ext he (by rw [e]; exact h.lr.set (k + 1) hk), he⟩
theorem TS.setAt {w : World} {rb P F : Nat} {s : ByteArray} {f k : Nat} (h : TS w rb P F s f k) (j : Nat) (hj : j ≤ s.size) :
    TS (w.setCell ⟨rb, 1, none⟩ (.int .i64 j)) rb P F s f j ∧ Ext rb w (w.setCell ⟨rb, 1, none⟩ (.int .i64 j)) :=
  have he := (Ext.refl rb w).setCell (p := ⟨rb, 1, none⟩) (Or.inl rfl) (.int .i64 j)
  ⟨h.ext he (h.lr.set j hj), he⟩
theorem TS.other {w : World} {rb P F : Nat} {s : ByteArray} {f k : Nat} (h : TS w rb P F s f k) {p : Addr} (h1 : p.block ≠ rb) (h2 : p.block ≠ P) (h3 : p.block ≠ P + 1) (h4 : p.block ≠ F) (v : Value) : TS (w.setCell p v) rb P F s f k := by
  have hc : ∀ b o, p.block ≠ b → (w.setCell p v).cell? ⟨b, o, none⟩ = w.cell? ⟨b, o, none⟩ := fun b o hb => World.cell?_setCell_other _ _ _ _ (fun e => hb (by rw [e]))
  exact ⟨by rw [hc _ _ h2]; exact h.cP, by rw [hc _ _ h4]; exact h.cF, h.lr.other h1 _, by rw [hc _ _ h3]; exact h.c0, by rw [hc _ _ h3]; exact h.c1, by rw [hc _ _ h3]; exact h.c2,
    fun i => by simpa using h.fr i, h.rP, h.PF, by simpa using h.sF⟩
theorem TS.made {w : World} {rb P F : Nat} {s : ByteArray} {f k : Nat} (h : TS w rb P F s f k) (kind : Int) (hfk : f ≤ k) :
    Calls Tryz.prog 255 #[.int .i64 kind, .pointer (some ⟨P, 0, none⟩), .pointer (some ⟨F, 0, none⟩)] w fun e w' =>
      e = .returned (.tuple #[.agg #[.int .i64 kind, .string (s.extract f k), .int .i64 f], .bool true]) ∧ TS w' rb P F s f k ∧ Ext rb w w' :=
  (made_any kind h.cP h.cF h.lr hfk).mono fun _ _ ⟨he, hb⟩ => ⟨he, h.below hb, Ext.of_below hb⟩
theorem TS.is {w : World} {rb P F : Nat} {s : ByteArray} {f k : Nat} (h : TS w rb P F s f k) {g : Nat} {p : UInt8 → Bool} (hg : Cls g p) (m : Nat) (hm : m ≤ 1) :
    Calls Tryz.prog 256 #[.pointer (some ⟨rb, 0, none⟩), .int .i64 m, .func (.func g) #[] #[]] w fun e w' => e = .returned (.bool (atIs p s.data.toList (k + m))) ∧ TS w' rb P F s f k ∧ Ext rb w w' :=
  (lis_any hg m hm h.lr).mono fun _ _ ⟨he, hb⟩ => ⟨he, h.below hb, Ext.of_below hb⟩
theorem TS.skip {w : World} {rb P F : Nat} {s : ByteArray} {f k : Nat} (h : TS w rb P F s f k) {g : Nat} {p : UInt8 → Bool} (hg : Cls g p) :
    Calls Tryz.prog 253 #[.pointer (some ⟨rb, 0, none⟩), .func (.func g) #[] #[]] w fun e w' => e = .returned (.tuple #[]) ∧ TS w' rb P F s f (k + runLen p (s.data.toList.drop k)) ∧ Ext rb w w' :=
  (skip_any hg h.lr).mono fun _ _ ⟨he, hl, hx⟩ => ⟨he, h.ext hx hl, hx⟩

set_option maxRecDepth 100000 in
set_option maxHeartbeats 4000000 in
theorem token_aux {rb : Nat} {s : ByteArray} {k f : Nat} {w : World} (h : LR w rb s k) (hf : Hid (k + runLen (· == 32) (s.data.toList.drop k) = f)) :
    Calls Tryz.prog 183 #[.pointer (some ⟨rb, 0, none⟩)] w fun e w' => e = .returned (.tuple #[optV (tokFrom s f).1, .bool (tokFrom s f).1.isSome]) ∧ LR w' rb s (tokFrom s f).2 ∧ Ext rb w w' := by
  have hrb := h.1
  have hs4k : s.size ≤ 4096 := h.2.2.2.2.2
  have hk := h.2.2.2.2.1
  have hfle := runLen_le (· == 32) s k hk
  rw [hf.out] at hfle
  have H := Lib.hid h; clear h
  have hmf : ∀ (fn : Fn) (first cap : Array Value) (w : World), (Instr.makeFunc fn first cap).run Tryz.prog w = .ok (.func fn first cap) w := fun _ _ _ _ => rfl
  go_enter Tryz.func183, Tryz.ntmps183
  go_wp2_with fail
  refine (skip_any cls_blank (H.out.below (((Below.refl _ _).alloc (Nat.le_refl _) _).alloc (by simp) _))).mono ?_
  rintro e w1 ⟨rfl, hl1, he1⟩
  rw [hf.out] at hl1
  have hP : w1.cell? ⟨w.heap.size, 0, none⟩ = some (.pointer (some ⟨rb, 0, none⟩)) := he1.cellOf (by omega) (by go_simp)
  have hT : w1.cell? ⟨w.heap.size + 1, 0, none⟩ = some (.int .i64 0) := he1.cellOf (by omega) (by go_simp)
  have hT1 : w1.cell? ⟨w.heap.size + 1, 1, none⟩ = some (.string ⟨#[]⟩) := he1.cellOf (by omega) (by go_simp)
  have hT2 : w1.cell? ⟨w.heap.size + 1, 2, none⟩ = some (.int .i64 0) := he1.cellOf (by omega) (by go_simp)
  have hfr : ∀ i, w1.frozen? ⟨w.heap.size + 1, i, none⟩ = false := fun i => by
    rw [he1.frozen (p := ⟨w.heap.size + 1, i, none⟩) (by simp) (by show w.heap.size + 1 ≠ rb; omega)]; go_simp
  have HE1 := Lib.hid (show Ext rb w w1 from ((((Ext.refl rb w).alloc _).alloc _).trans he1))
  have hs1 : w.heap.size + 1 < w1.heap.size := lt_of_cell hT
  have HL1 := Lib.hid hl1
  obtain ⟨r0, r1, r2, r3, r4, r5⟩ := hl1
  clear he1
  go_wp2_with fail
  have hb2 : Below w1.heap.size w1 (w1.alloc (Obj.cells #[Value.int IntKind.i64 (f : Nat)] 3)) := ((Below.refl _ _).alloc (Nat.le_refl _) _)
  have hF2 : (w1.alloc (Obj.cells #[Value.int IntKind.i64 (f : Nat)] 3)).cell? ⟨w1.heap.size, 0, none⟩ = some (.int .i64 (f : Nat)) := by go_simp
  generalize (w1.alloc (Obj.cells #[Value.int IntKind.i64 (f : Nat)] 3)) = w2 at *
  have HTS : Hid (TS w2 rb w.heap.size w1.heap.size s f f) := Lib.hid
    ⟨by rw [hb2.cell (p := ⟨w.heap.size, 0, none⟩) (by show w.heap.size < _; omega)]; exact hP, hF2, HL1.out.below hb2,
      by rw [hb2.cell (p := ⟨w.heap.size + 1, 0, none⟩) hs1]; exact hT, by rw [hb2.cell (p := ⟨w.heap.size + 1, 1, none⟩) hs1]; exact hT1, by rw [hb2.cell (p := ⟨w.heap.size + 1, 2, none⟩) hs1]; exact hT2,
      fun i => by rw [hb2.frozen (p := ⟨w.heap.size + 1, i, none⟩) hs1]; exact hfr i, hrb, hs1, lt_of_cell hF2⟩
  have HE2 := Lib.hid (HE1.out.trans (Ext.of_below hb2))
  clear hb2 hP hT hT1 hT2 hfr r0 r1 r2 r3 r4 r5 HE1 HL1 hF2
  generalize w1.heap.size = F at *
  have cP := HTS.out.cP
  have q0 := HTS.out.lr.2.1
  have q1 := HTS.out.lr.2.2.1
  by_cases hend : f = s.size
  · subst hend
    have hsz : ((s.size : Int) == (s.size : Int)) = true := by simp
    have HFIN := Lib.hid (tokFrom_end s)
    go_quiet (fail)
    have HTS3 := Lib.hid (HTS.out.below (below_drewN w2 nq))
    have HE3 := Lib.hid (HE2.out.trans (Ext.of_below (below_drewN w2 nq)))
    clear HTS HE2 cP q0 q1
    generalize w2.drewN nq = w3 at *
    go_wp2_with fail
    refine (HTS3.out.made 3 (Nat.le_refl _)).mono ?_
    rintro e w4 ⟨rfl, ht4, he4⟩
    have HTS4 := Lib.hid ht4
    have HE4 := Lib.hid (HE3.out.trans he4)
    obtain ⟨_, _, _, c0, c1, c2, fr, _, _, _⟩ := ht4
    clear he4
    go_wp2_with fail
    refine bodyPost_ret (v := .tuple #[.agg #[.int .i64 3, .string (s.extract s.size s.size), .int .i64 s.size], .bool true]) (by simp [results, Tryz.results183, go_sem, c0, c1, c2]) rfl ?_
    rw [HFIN.out]
    exact ⟨rfl, HTS4.out.fin HE4.out (Nat.le_refl _) _ _ _⟩
  · have hlt : f < s.size := by omega
    have hsz : ((f : Int) == (s.size : Int)) = false := by simp; omega
    obtain ⟨c, hc⟩ : ∃ c, s.data.toList[f]? = some c := ⟨_, List.getElem?_eq_getElem (show f < s.data.toList.length from hlt)⟩
    have hat : ∀ p : UInt8 → Bool, atIs p s.data.toList f = p c := fun p => by unfold atIs; rw [hc]
    have HAT := Lib.hid hat
    have HC := Lib.hid hc
    clear hat hc hend
    go_quiet (fail)
    have HTS3 := Lib.hid (HTS.out.below (below_drewN w2 nq))
    have HE3 := Lib.hid (HE2.out.trans (Ext.of_below (below_drewN w2 nq)))
    clear HTS HE2 cP q0 q1
    generalize w2.drewN nq = w3 at *
    have cP := HTS3.out.cP
    go_wp2_with fail
    refine (HTS3.out.is cls_let 0 (by decide)).mono ?_
    rintro e w4 ⟨rfl, ht4, he4⟩
    rw [Nat.add_zero, HAT.out]
    have HTS4 := Lib.hid ht4
    have HE4 := Lib.hid (HE3.out.trans he4)
    have cP := ht4.cP
    have q0 := ht4.lr.2.1
    have q1 := ht4.lr.2.2.1
    clear he4 ht4
    cases hl : isLet c
    · have hl' : ¬ isLet c = true := by rw [hl]; decide
      have HL' := Lib.hid hl'
      clear hl hl'
      have hidx : (s[f].toNat : Int) = (c.toNat : Int) := by
        have h := HC.out
        rw [show s.data.toList[f]? = some s[f] from List.getElem?_eq_getElem (show f < s.data.toList.length from hlt)] at h
        injection h with h; rw [h]
      have hi2 : (f : Int) < (s.size : Int) := by omega
      by_cases h34 : c = 34
      · have hq : ((c.toNat : Int) == 34) = true := by rw [h34]; rfl
        have hq' : ((s[f].toNat : Int) == 34) = true := by rw [hidx]; exact hq
        have HFQ := Lib.hid (tokFrom_quote HC.out HL'.out h34)
        clear hq hidx h34
        go_wp2_with fail
        go_quiet (fail)
        have HTS5 := Lib.hid (HTS4.out.below (below_drewN w4 nq))
        have HE5 := Lib.hid (HE4.out.trans (Ext.of_below (below_drewN w4 nq)))
        clear cP q0 q1
        generalize w4.drewN nq = w5 at *
        have cP := HTS5.out.cP
        have q0 := HTS5.out.lr.2.1
        have q1 := HTS5.out.lr.2.2.1
        have q2 := HTS5.out.lr.2.2.2.1
        go_wp2_with fail
        skip
        have hstep : f + 1 ≤ s.size := hlt
        have HTS6 := Lib.hid (HTS5.out.step (by exact hstep)).1
        have HE6 := Lib.hid (HE5.out.trans (HTS5.out.step (by exact hstep)).2)
        generalize w5.setCell ⟨rb, 1, none⟩ (Value.int IntKind.i64 (↑f + 1)) = w6 at *
        have cP := HTS6.out.cP
        go_wp2_with fail
        refine (HTS6.out.skip cls_pln).mono ?_
        rintro e w7 ⟨rfl, ht7, he7⟩
        have HTS7 := Lib.hid ht7
        have HE7 := Lib.hid (HE6.out.trans he7)
        have cP := ht7.cP
        clear he7 ht7
        have hple := runLen_le isPln s (f + 1) hlt
        have hfe : f ≤ f + 1 + runLen isPln (s.data.toList.drop (f + 1)) := by omega
        generalize f + 1 + runLen isPln (s.data.toList.drop (f + 1)) = e at *
        go_wp2_with fail
        refine (HTS7.out.is cls_quote 0 (by decide)).mono ?_
        rintro e w8 ⟨rfl, ht8, he8⟩
        rw [Nat.add_zero]
        have HTS8 := Lib.hid ht8
        have HE8 := Lib.hid (HE7.out.trans he8)
        have cP := ht8.cP
        have q0 := ht8.lr.2.1
        have q1 := ht8.lr.2.2.1
        have q2 := ht8.lr.2.2.2.1
        clear he8 ht8
        cases hat : atIs (· == 34) s.data.toList e
        · have HFIN := Lib.hid (HFQ.out.trans (if_neg (by rw [hat]; decide)))
          clear hat
          have cF := HTS8.out.cF
          obtain ⟨_, _, _, c0, c1, c2, fr, _, _, _⟩ := HTS8.out
          go_wp2_with fail
          have HTS9 := Lib.hid (HTS8.out.setAt f (by omega)).1
          have HE9 := Lib.hid (HE8.out.trans (HTS8.out.setAt f (by omega)).2)
          refine bodyPost_ret (v := .tuple #[zeroTok, .bool false]) (by unfold zeroTok; simp [results, Tryz.results183, go_sem, c0, c1, c2]) rfl ?_
          rw [HFIN.out]
          exact ⟨rfl, HTS9.out.fin HE9.out (Nat.le_refl _) _ _ _⟩
        · have HFIN := Lib.hid (HFQ.out.trans (if_pos hat))
          have hlt2 : e < s.size := by
            have h := hat
            unfold atIs at h
            cases hh : s.data.toList[e]? with
            | none => rw [hh] at h; cases h
            | some _ => exact (List.getElem?_eq_some_iff.1 hh).1
          clear hat
          go_wp2_with fail
          have HTS9 := Lib.hid (HTS8.out.step (by exact hlt2)).1
          have HE9 := Lib.hid (HE8.out.trans (HTS8.out.step (by exact hlt2)).2)
          generalize w8.setCell ⟨rb, 1, none⟩ (Value.int IntKind.i64 (↑e + 1)) = w9 at *
          have cP := HTS9.out.cP
          go_wp2_with fail
          refine (HTS9.out.made 0 (by omega)).mono ?_
          rintro e w10 ⟨rfl, ht10, he10⟩
          have HTS10 := Lib.hid ht10
          have HE10 := Lib.hid (HE9.out.trans he10)
          obtain ⟨_, _, _, c0, c1, c2, fr, rP10, PF10, sF10⟩ := ht10
          clear he10
          go_wp2_with fail
          refine bodyPost_ret (v := .tuple #[.agg #[.int .i64 0, .string (s.extract f (e + 1)), .int .i64 f], .bool true]) (by simp [results, Tryz.results183, go_sem, c0, c1, c2]) rfl ?_
          rw [HFIN.out]
          exact ⟨rfl, HTS10.out.fin HE10.out (Nat.le_refl _) _ _ _⟩
      · have hq' : ((s[f].toNat : Int) == 34) = false := by
          rw [hidx]; simp; intro h; exact h34 (UInt8.toNat_inj.1 (show c.toNat = 34 by omega))
        clear hidx
        have H34 := Lib.hid h34
        clear h34
        go_wp2_with fail
        go_quiet (fail)
        have HTS5 := Lib.hid (HTS4.out.below (below_drewN w4 nq))
        have HE5 := Lib.hid (HE4.out.trans (Ext.of_below (below_drewN w4 nq)))
        clear cP q0 q1
        generalize w4.drewN nq = w5 at *
        have cP := HTS5.out.cP
        have q0 := HTS5.out.lr.2.1
        have q1 := HTS5.out.lr.2.2.1
        have q2 := HTS5.out.lr.2.2.2.1
        go_wp2_with fail
        refine (HTS5.out.is cls_dig 0 (by decide)).mono ?_
        rintro e w6 ⟨rfl, ht6, he6⟩
        rw [Nat.add_zero, HAT.out]
        have HTS6 := Lib.hid ht6
        have HE6 := Lib.hid (HE5.out.trans he6)
        have cP := ht6.cP
        have q0 := ht6.lr.2.1
        have q1 := ht6.lr.2.2.1
        have q2 := ht6.lr.2.2.2.1
        clear he6 ht6
        cases hd : isDig c
        · have hd' : ¬ isDig c = true := by rw [hd]; decide
          have HD' := Lib.hid hd'
          clear hd hd'
          go_wp2_with fail
          refine (HTS6.out.is cls_sgn 0 (by decide)).mono ?_
          rintro e w7 ⟨rfl, ht7, he7⟩
          rw [Nat.add_zero, HAT.out]
          have HTS7 := Lib.hid ht7
          have HE7 := Lib.hid (HE6.out.trans he7)
          have cP := ht7.cP
          have q0 := ht7.lr.2.1
          have q1 := ht7.lr.2.2.1
          have q2 := ht7.lr.2.2.2.1
          clear he7 ht7
          cases hs : isSgn c
          · have HFIN := Lib.hid (tokFrom_none HC.out HL'.out H34.out HD'.out (by rw [hs]; decide))
            clear hs
            obtain ⟨_, _, _, c0, c1, c2, fr, _, _, _⟩ := HTS7.out
            go_wp2_with fail
            refine bodyPost_ret (v := .tuple #[zeroTok, .bool false]) (by unfold zeroTok; simp [results, Tryz.results183, go_sem, c0, c1, c2]) rfl ?_
            rw [HFIN.out]
            exact ⟨rfl, HTS7.out.fin HE7.out (Nat.le_refl _) _ _ _⟩
          · have HFIN := Lib.hid (tokFrom_sgn HC.out HL'.out H34.out HD'.out hs)
            clear hs
            have hstep : f + 1 ≤ s.size := hlt
            go_wp2_with fail
            have HTS8 := Lib.hid (HTS7.out.step (by exact hstep)).1
            have HE8 := Lib.hid (HE7.out.trans (HTS7.out.step (by exact hstep)).2)
            generalize w7.setCell ⟨rb, 1, none⟩ (Value.int IntKind.i64 (↑f + 1)) = w8 at *
            have cP := HTS8.out.cP
            go_wp2_with fail
            refine (HTS8.out.made 2 (by omega)).mono ?_
            rintro e w9 ⟨rfl, ht9, he9⟩
            have HTS9 := Lib.hid ht9
            have HE9 := Lib.hid (HE8.out.trans he9)
            obtain ⟨_, _, _, c0, c1, c2, fr, rP9, PF9, sF9⟩ := ht9
            clear he9
            go_wp2_with fail
            refine bodyPost_ret (v := .tuple #[.agg #[.int .i64 2, .string (s.extract f (f + 1)), .int .i64 f], .bool true]) (by simp [results, Tryz.results183, go_sem, c0, c1, c2]) rfl ?_
            rw [HFIN.out]
            exact ⟨rfl, HTS9.out.fin HE9.out (Nat.le_refl _) _ _ _⟩
        · have HFD := Lib.hid (tokFrom_dig HC.out HL'.out H34.out hd)
          clear hd
          go_wp2_with fail
          refine (HTS6.out.skip cls_dig).mono ?_
          rintro e w7 ⟨rfl, ht7, he7⟩
          have HTS7 := Lib.hid ht7
          have HE7 := Lib.hid (HE6.out.trans he7)
          have cP := ht7.cP
          clear he7 ht7
          have hfe : f ≤ f + runLen isDig (s.data.toList.drop f) := Nat.le_add_right _ _
          generalize f + runLen isDig (s.data.toList.drop f) = e at *
          go_wp2_with fail
          refine (HTS7.out.is cls_point 0 (by decide)).mono ?_
          rintro e w8 ⟨rfl, ht8, he8⟩
          rw [Nat.add_zero]
          have HTS8 := Lib.hid ht8
          have HE8 := Lib.hid (HE7.out.trans he8)
          have cP := ht8.cP
          have q0 := ht8.lr.2.1
          have q1 := ht8.lr.2.2.1
          have q2 := ht8.lr.2.2.2.1
          clear he8 ht8
          cases hpt : atIs (· == 46) s.data.toList e
          · have HFIN := Lib.hid (HFD.out.trans (if_neg (by rw [hpt]; simp)))
            clear hpt
            go_wp2_with fail
            refine (HTS8.out.made 1 (by omega)).mono ?_
            rintro e w9 ⟨rfl, ht9, he9⟩
            have HTS9 := Lib.hid ht9
            have HE9 := Lib.hid (HE8.out.trans he9)
            obtain ⟨_, _, _, c0, c1, c2, fr, rP9, PF9, sF9⟩ := ht9
            clear he9
            go_wp2_with fail
            refine bodyPost_ret (v := .tuple #[.agg #[.int .i64 1, .string (s.extract f e), .int .i64 f], .bool true]) (by simp [results, Tryz.results183, go_sem, c0, c1, c2]) rfl ?_
            rw [HFIN.out]
            exact ⟨rfl, HTS9.out.fin HE9.out (Nat.le_refl _) _ _ _⟩
          · have HPT := Lib.hid hpt
            have hlt2 : e < s.size := by
              have h := hpt
              unfold atIs at h
              cases hh : s.data.toList[e]? with
              | none => rw [hh] at h; cases h
              | some _ => exact (List.getElem?_eq_some_iff.1 hh).1
            clear hpt
            go_wp2_with fail
            refine (HTS8.out.is cls_dig 1 (by decide)).mono ?_
            rintro e w9 ⟨rfl, ht9, he9⟩
            skip
            have HTS9 := Lib.hid ht9
            have HE9 := Lib.hid (HE8.out.trans he9)
            have cP := ht9.cP
            have q0 := ht9.lr.2.1
            have q1 := ht9.lr.2.2.1
            have q2 := ht9.lr.2.2.2.1
            clear he9 ht9
            cases hp2 : atIs isDig s.data.toList (e + 1)
            · have HFIN := Lib.hid (HFD.out.trans (if_neg (by rw [hp2]; simp)))
              clear hp2
              go_wp2_with fail
              refine (HTS9.out.made 1 (by omega)).mono ?_
              rintro e w10 ⟨rfl, ht10, he10⟩
              have HTS10 := Lib.hid ht10
              have HE10 := Lib.hid (HE9.out.trans he10)
              obtain ⟨_, _, _, c0, c1, c2, fr, rP10, PF10, sF10⟩ := ht10
              clear he10
              go_wp2_with fail
              refine bodyPost_ret (v := .tuple #[.agg #[.int .i64 1, .string (s.extract f e), .int .i64 f], .bool true]) (by simp [results, Tryz.results183, go_sem, c0, c1, c2]) rfl ?_
              rw [HFIN.out]
              exact ⟨rfl, HTS10.out.fin HE10.out (Nat.le_refl _) _ _ _⟩
            · have HFIN := Lib.hid (HFD.out.trans (if_pos (by rw [HPT.out, hp2]; rfl)))
              clear hp2
              go_wp2_with fail
              have HTS10 := Lib.hid (HTS9.out.step (by exact hlt2)).1
              have HE10 := Lib.hid (HE9.out.trans (HTS9.out.step (by exact hlt2)).2)
              generalize w9.setCell ⟨rb, 1, none⟩ (Value.int IntKind.i64 (↑e + 1)) = w10 at *
              have cP := HTS10.out.cP
              go_wp2_with fail
              refine (HTS10.out.skip cls_dig).mono ?_
              rintro e w11 ⟨rfl, ht11, he11⟩
              have HTS11 := Lib.hid ht11
              have HE11 := Lib.hid (HE10.out.trans he11)
              have cP := ht11.cP
              clear he11 ht11
              have hfe2 : f ≤ e + 1 + runLen isDig (s.data.toList.drop (e + 1)) := by omega
              generalize e + 1 + runLen isDig (s.data.toList.drop (e + 1)) = e2 at *
              go_wp2_with fail
              refine (HTS11.out.made 1 (by omega)).mono ?_
              rintro e w12 ⟨rfl, ht12, he12⟩
              have HTS12 := Lib.hid ht12
              have HE12 := Lib.hid (HE11.out.trans he12)
              obtain ⟨_, _, _, c0, c1, c2, fr, rP12, PF12, sF12⟩ := ht12
              clear he12
              go_wp2_with fail
              refine bodyPost_ret (v := .tuple #[.agg #[.int .i64 1, .string (s.extract f e2), .int .i64 f], .bool true]) (by simp [results, Tryz.results183, go_sem, c0, c1, c2]) rfl ?_
              rw [HFIN.out]
              exact ⟨rfl, HTS12.out.fin HE12.out (Nat.le_refl _) _ _ _⟩

    · have HFIN := Lib.hid (tokFrom_let HC.out hl)
      clear hl
      go_wp2_with fail
      refine (HTS4.out.skip cls_wrd).mono ?_
      rintro e w5 ⟨rfl, ht5, he5⟩
      have HTS5 := Lib.hid ht5
      have HE5 := Lib.hid (HE4.out.trans he5)
      have cP := ht5.cP
      clear he5 ht5
      have hfe : f ≤ f + runLen isWrd (s.data.toList.drop f) := Nat.le_add_right _ _
      have hex : (s.extract f (f + runLen isWrd (s.data.toList.drop f))).size ≤ 4096 := by
        have := HTS5.out.lr.2.2.2.2
        rw [ByteArray.size_extract]; omega
      generalize f + runLen isWrd (s.data.toList.drop f) = e at *
      go_wp2_with fail
      refine (HTS5.out.made 0 (hfe)).mono ?_
      rintro e w6 ⟨rfl, ht6, he6⟩
      have HTS6 := Lib.hid ht6
      have HE6 := Lib.hid (HE5.out.trans he6)
      obtain ⟨_, _, _, c0, c1, c2, fr, rP6, PF6, sF6⟩ := ht6
      clear he6
      go_wp2_with fail
      refine (lower_any _ _ hex).mono ?_
      rintro e' w7 ⟨rfl, hb7⟩
      have t0 : w7.cell? ⟨w6.heap.size, 0, none⟩ = some (.int .i64 0) := by rw [hb7.cell (p := ⟨w6.heap.size, 0, none⟩) (by simp)]; go_simp
      have t1 : w7.cell? ⟨w6.heap.size, 1, none⟩ = some (.string (s.extract f e)) := by rw [hb7.cell (p := ⟨w6.heap.size, 1, none⟩) (by simp)]; go_simp
      have t2 : w7.cell? ⟨w6.heap.size, 2, none⟩ = some (.int .i64 f) := by rw [hb7.cell (p := ⟨w6.heap.size, 2, none⟩) (by simp)]; go_simp
      have tf : w7.frozen? ⟨w6.heap.size, 1, none⟩ = false := by rw [hb7.frozen (p := ⟨w6.heap.size, 1, none⟩) (by simp)]; go_simp
      have hb67 : Below w6.heap.size w6 w7 := ((Below.refl _ _).alloc (Nat.le_refl _) _).trans (hb7.mono (by simp))
      have HTS7 := Lib.hid (HTS6.out.below hb67)
      have HE7 := Lib.hid (HE6.out.trans (Ext.of_below hb67))
      have hsz7 : w6.heap.size < w7.heap.size := lt_of_cell t0
      have hw6 : w.heap.size ≤ w6.heap.size := by omega
      clear hb7 hb67 c0 c1 c2 fr
      obtain ⟨_, _, _, c0, c1, c2, fr, _, _, _⟩ := HTS7.out
      generalize ht7 : (ByteArray.mk (lowL (s.extract f e).data.toList).toArray) = tx at *
      go_wp2_with fail
      have HTS8 := Lib.hid (HTS7.out.other (p := ⟨w6.heap.size, 1, none⟩) (by show w6.heap.size ≠ _; omega) (by show w6.heap.size ≠ _; omega) (by show w6.heap.size ≠ _; omega) (by show w6.heap.size ≠ _; omega) (.string tx))
      have HE8 := Lib.hid (HE7.out.setCell (p := ⟨w6.heap.size, 1, none⟩) (Or.inr hw6) (.string tx))
      refine bodyPost_ret (v := .tuple #[.agg #[.int .i64 0, .string (tx), .int .i64 f], .bool true]) (by simp [results, Tryz.results183, go_sem, c0, c1, c2]) rfl ?_
      rw [HFIN.out]
      exact ⟨rfl, HTS8.out.fin HE8.out (Nat.le_refl _) _ _ _⟩
theorem token_any {rb : Nat} {s : ByteArray} {k : Nat} {w : World} (h : LR w rb s k) :
    Calls Tryz.prog 183 #[.pointer (some ⟨rb, 0, none⟩)] w fun e w' => e = .returned (.tuple #[optV (tokNext s k).1, .bool (tokNext s k).1.isSome]) ∧ LR w' rb s (tokNext s k).2 ∧ Ext rb w w' :=
  token_aux h (Lib.hid rfl)
end Go.Proofs.YtjojihadnplllaaGreatDoor
