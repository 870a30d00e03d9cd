/- The lexer's small parts: classes of bytes, is, skip, lower. -/
import Derived.Test.YtjojihadnplllaaGreatDoorTxtD
import Derived.Deep.QuietTactic
import Derived.BigQuiet
import Derived.IntWalk
import Derived.Deep.LoopGhost
namespace Go.Proofs.YtjojihadnplllaaGreatDoor
open Go.RowKit Go Go.Shelf Go.Proofs

def isUp (c : UInt8) : Bool := 65 ≤ c && c ≤ 90
def isLow (c : UInt8) : Bool := 97 ≤ c && c ≤ 122
def isLet (c : UInt8) : Bool := isLow c || isUp c
def isWrd (c : UInt8) : Bool := isLet c || isDig c || c == 95
def isPln (c : UInt8) : Bool := 32 ≤ c && c ≤ 126 && c != 34
def signs : List UInt8 := [43, 45, 47, 46, 44, 64, 58, 61, 37, 40, 41]
def isSgn (c : UInt8) : Bool := decide (0 ≤ Lib.indexByte signs c)

/-- A class of bytes, as a function of the program. -/
def Cls (g : Nat) (p : UInt8 → Bool) : Prop :=
  (∀ args w, (callFunc g args).run Tryz.prog w = .ok (.enter g args) w) ∧
    ∀ (c : UInt8) (w : World), Calls Tryz.prog g #[.int .u8 c.toNat] w fun e w' => e = .returned (.bool (p c)) ∧ w = w'

theorem letB (c : UInt8) : isLet c = (decide ((97 : Int) ≤ c.toNat) && decide ((c.toNat : Int) ≤ 122) || decide ((65 : Int) ≤ c.toNat) && decide ((c.toNat : Int) ≤ 90)) := by
  unfold isLet isLow isUp
  rw [Bool.eq_iff_iff]; simp [UInt8.le_iff_toNat_le]; omega
theorem digB (c : UInt8) : isDig c = (decide ((48 : Int) ≤ c.toNat) && decide ((c.toNat : Int) ≤ 57)) := by
  unfold isDig
  rw [Bool.eq_iff_iff]; simp [UInt8.le_iff_toNat_le]; omega

theorem ret_bool {a b : Bool} (h : a = b) : Ending.returned (.bool a) = .returned (.bool b) := by rw [h]

set_option maxHeartbeats 400000 in
theorem cls_let : Cls 257 isLet := by
  refine ⟨enters_of Tryz.func257 (by kernel_rfl) rfl, fun c w => ?_⟩
  have hz := Lib.hid (letB c)
  by_cases h1 : (97 : Int) ≤ c.toNat <;> by_cases h2 : (c.toNat : Int) ≤ 122 <;> by_cases h3 : (65 : Int) ≤ c.toNat <;> by_cases h4 : (c.toNat : Int) ≤ 90 <;> first | (exfalso; omega) | skip
  all_goals
    go_enter Tryz.func257, Tryz.ntmps257
    go_wp2_with fail
    go_ret
    refine ⟨?_, rfl⟩
    rw [hz.out]
    simp [h1, h2, h3, h4]

set_option maxHeartbeats 400000 in
theorem cls_dig : Cls 262 isDig := by
  refine ⟨enters_of Tryz.func262 (by kernel_rfl) rfl, fun c w => ?_⟩
  have hz := Lib.hid (digB c)
  by_cases h1 : (48 : Int) ≤ c.toNat <;> by_cases h2 : (c.toNat : Int) ≤ 57 <;> first | (exfalso; omega) | skip
  all_goals
    go_enter Tryz.func262, Tryz.ntmps262
    go_wp2_with fail
    go_ret
    refine ⟨?_, rfl⟩
    rw [hz.out]
    simp [h1, h2]

set_option maxHeartbeats 400000 in
theorem cls_wrd : Cls 258 isWrd := by
  refine ⟨enters_of Tryz.func258 (by kernel_rfl) rfl, fun c w => ?_⟩
  cases h1 : isLet c
  · cases h2 : isDig c
    · have hz := Lib.hid (show isWrd c = ((c.toNat : Int) == 95) by
        unfold isWrd; rw [h1, h2]; rw [Bool.eq_iff_iff]; simp [← UInt8.toNat_inj]; omega)
      have H1 := Lib.hid h1
      have H2 := Lib.hid h2
      clear h1 h2
      go_enter Tryz.func258, Tryz.ntmps258
      go_wp2_with fail
      refine (cls_let.2 c _).mono ?_
      rintro e w1 ⟨rfl, rfl⟩
      rw [H1.out]
      go_wp2_with fail
      refine (cls_dig.2 c _).mono ?_
      rintro e w1 ⟨rfl, rfl⟩
      rw [H2.out]
      go_wp2_with fail
      go_ret
      rw [hz.out]
      exact ⟨rfl, rfl⟩
    · have hz := Lib.hid (show isWrd c = true by unfold isWrd; rw [h1, h2]; rfl)
      have H1 := Lib.hid h1
      have H2 := Lib.hid h2
      clear h1 h2
      go_enter Tryz.func258, Tryz.ntmps258
      go_wp2_with fail
      refine (cls_let.2 c _).mono ?_
      rintro e w1 ⟨rfl, rfl⟩
      rw [H1.out]
      go_wp2_with fail
      refine (cls_dig.2 c _).mono ?_
      rintro e w1 ⟨rfl, rfl⟩
      rw [H2.out]
      go_wp2_with fail
      go_ret
      rw [hz.out]
      exact ⟨rfl, rfl⟩
  · have hz := Lib.hid (show isWrd c = true by unfold isWrd; rw [h1]; rfl)
    have H1 := Lib.hid h1
    clear h1
    go_enter Tryz.func258, Tryz.ntmps258
    go_wp2_with fail
    refine (cls_let.2 c _).mono ?_
    rintro e w1 ⟨rfl, rfl⟩
    rw [H1.out]
    go_wp2_with fail
    go_ret
    rw [hz.out]
    exact ⟨rfl, rfl⟩

set_option maxHeartbeats 400000 in
theorem cls_pln : Cls 260 isPln := by
  refine ⟨enters_of Tryz.func260 (by kernel_rfl) rfl, fun c w => ?_⟩
  have hz := Lib.hid (show isPln c = (decide ((32 : Int) ≤ c.toNat) && decide ((c.toNat : Int) ≤ 126) && ((c.toNat : Int) != 34)) by
    unfold isPln; rw [Bool.eq_iff_iff]; simp [UInt8.le_iff_toNat_le, ← UInt8.toNat_inj]; omega)
  by_cases h1 : (32 : Int) ≤ c.toNat <;> by_cases h2 : (c.toNat : Int) ≤ 126 <;> first | (exfalso; omega) | skip
  all_goals
    go_enter Tryz.func260, Tryz.ntmps260
    go_wp2_with fail
    go_ret
    refine ⟨?_, rfl⟩
    rw [hz.out]
    simp [h1, h2] <;> omega

set_option maxHeartbeats 400000 in
theorem cls_sgn : Cls 264 isSgn := by
  refine ⟨enters_of Tryz.func264 (by kernel_rfl) rfl, fun c w => ?_⟩
  go_enter Tryz.func264, Tryz.ntmps264
  go_wp2_with fail
  refine (Tryz.strings_IndexByte _ _ _).mono ?_
  rintro e w1 ⟨rfl, rfl⟩
  rw [show ({ data := #[43, 45, 47, 46, 44, 64, 58, 61, 37, 40, 41] } : ByteArray).data.toList = signs from rfl, show ((c.toNat : Int)).toNat.toUInt8 = c by simp]
  generalize hk : Lib.indexByte signs c = k
  have hz := Lib.hid (show isSgn c = decide (0 ≤ k) by unfold isSgn; rw [hk])
  clear hk
  go_wp2_with fail
  go_ret
  rw [hz.out]
  exact ⟨rfl, rfl⟩

set_option maxHeartbeats 400000 in
theorem cls_blank : Cls 254 (· == 32) := by
  refine ⟨enters_of Tryz.func254 (by kernel_rfl) rfl, fun c w => ?_⟩
  have hz := Lib.hid (show (c == 32) = ((c.toNat : Int) == 32) by rw [Bool.eq_iff_iff]; simp [← UInt8.toNat_inj]; omega)
  go_enter Tryz.func254, Tryz.ntmps254
  go_wp2_with fail
  go_ret
  exact ⟨ret_bool hz.out.symm, rfl⟩
set_option maxHeartbeats 400000 in
theorem cls_quote : Cls 261 (· == 34) := by
  refine ⟨enters_of Tryz.func261 (by kernel_rfl) rfl, fun c w => ?_⟩
  have hz := Lib.hid (show (c == 34) = ((c.toNat : Int) == 34) by rw [Bool.eq_iff_iff]; simp [← UInt8.toNat_inj]; omega)
  go_enter Tryz.func261, Tryz.ntmps261
  go_wp2_with fail
  go_ret
  exact ⟨ret_bool hz.out.symm, rfl⟩
set_option maxHeartbeats 400000 in
theorem cls_point : Cls 263 (· == 46) := by
  refine ⟨enters_of Tryz.func263 (by kernel_rfl) rfl, fun c w => ?_⟩
  have hz := Lib.hid (show (c == 46) = ((c.toNat : Int) == 46) by rw [Bool.eq_iff_iff]; simp [← UInt8.toNat_inj]; omega)
  go_enter Tryz.func263, Tryz.ntmps263
  go_wp2_with fail
  go_ret
  exact ⟨ret_bool hz.out.symm, rfl⟩

/-- The lexer's reader in block rb: its text and its place. -/
def LR (w : World) (rb : Nat) (s : ByteArray) (k : Nat) : Prop :=
  rb < w.heap.size ∧ w.cell? ⟨rb, 0, none⟩ = some (.string s) ∧ w.cell? ⟨rb, 1, none⟩ = some (.int .i64 k) ∧ w.frozen? ⟨rb, 1, none⟩ = false ∧ k ≤ s.size ∧ s.size ≤ 4096

theorem LR.below {w w' : World} {rb : Nat} {s : ByteArray} {k : Nat} (h : LR w rb s k) (hb : Below w.heap.size w w') : LR w' rb s k := by
  obtain ⟨h0, h1, h2, h3, h4⟩ := h
  refine ⟨Nat.lt_of_lt_of_le h0 hb.size, ?_, ?_, ?_, h4⟩
  · rw [hb.cell (p := ⟨rb, 0, none⟩) h0]; exact h1
  · rw [hb.cell (p := ⟨rb, 1, none⟩) h0]; exact h2
  · rw [hb.frozen (p := ⟨rb, 1, none⟩) h0]; exact h3

theorem LR.set {w : World} {rb : Nat} {s : ByteArray} {k : Nat} (h : LR w rb s k) (j : Nat) (hj : j ≤ s.size) : LR (w.setCell ⟨rb, 1, none⟩ (.int .i64 j)) rb s j := by
  obtain ⟨h0, h1, h2, h3, h4, h5⟩ := h
  refine ⟨by simpa using h0, ?_, World.cell?_setCell_same _ _ _ h2, by simpa using h3, hj, h5⟩
  rw [World.cell?_setCell_other _ _ _ _ (by simp)]; exact h1

/-- Is the byte at a place of a class? -/
def atIs (p : UInt8 → Bool) (l : List UInt8) (k : Nat) : Bool := match l[k]? with | some c => p c | none => false

set_option maxHeartbeats 1000000 in
theorem lis_any {g : Nat} {p : UInt8 → Bool} (hg : Cls g p) {rb : Nat} {s : ByteArray} {k : Nat} (m : Nat) {w : World} (hm : m ≤ 1) (h : LR w rb s k) :
    Calls Tryz.prog 256 #[.pointer (some ⟨rb, 0, none⟩), .int .i64 m, .func (.func g) #[] #[]] w fun e w' => e = .returned (.bool (atIs p s.data.toList (k + m))) ∧ Below w.heap.size w w' := by
  obtain ⟨h0, h1, h2, h3, h4, h5⟩ := h
  by_cases hlt : k + m < s.size
  · have hz : atIs p s.data.toList (k + m) = p s[k + m] := by
      unfold atIs
      have : s.data.toList[k + m]? = some s[k + m] := by
        rcases s with ⟨⟨l⟩⟩
        exact List.getElem?_eq_getElem hlt
      rw [this]
    rw [hz]; clear hz
    have eg := hg.1
    have HG := Lib.hid hg.2
    have hi : ((k : Int) + (m : Int)) < (s.size : Int) := by omega
    have hi1 : IntKind.i64.wrap ((k : Int) + (m : Int)) = (k : Int) + (m : Int) := IntWalk.i64_in _ (by omega)
    have hi2 : (0 : Int) ≤ (k : Int) + (m : Int) := by omega
    have hi3 : ((k : Int) + (m : Int)).toNat = k + m := by omega
    clear hg h3
    go_enter Tryz.func256, Tryz.ntmps256
    go_wp2_with fail
    go_quiet ((go_at_fn g; exact Calls.quiet_of_same ((HG.out _ _).mono fun e w' hh => ⟨hh.1, hh.2.symm⟩)))
    go_wp2_with fail
    go_ret
    exact ⟨rfl, below_drewN _ _⟩
  · have hz : atIs p s.data.toList (k + m) = false := by
      unfold atIs
      have : s.data.toList[k + m]? = none := List.getElem?_eq_none (by show s.size ≤ _; omega)
      rw [this]
    rw [hz]; clear hz
    have hi : decide (((k : Int) + (m : Int)) < (s.size : Int)) = false := by simp; omega
    have hi1 : IntKind.i64.wrap ((k : Int) + (m : Int)) = (k : Int) + (m : Int) := IntWalk.i64_in _ (by omega)
    clear hg h3
    go_enter Tryz.func256, Tryz.ntmps256
    go_wp2_with fail
    go_quiet (fail)
    clear hi1
    go_wp2_with fail
    go_ret
    exact ⟨rfl, below_drewN _ _⟩

/-- How far a class goes from a place on. -/
def runLen (p : UInt8 → Bool) (l : List UInt8) : Nat := (l.takeWhile p).length
theorem takeWhile_len_le {α : Type} (p : α → Bool) : ∀ l : List α, (l.takeWhile p).length ≤ l.length
  | [] => Nat.le_refl _
  | a :: l => by
    cases h : p a <;> simp [h, takeWhile_len_le p l]

theorem runLen_at (p : UInt8 → Bool) (l : List UInt8) (k : Nat) : atIs p l k = true → runLen p (l.drop k) = runLen p (l.drop (k + 1)) + 1 ∧ k < l.length := by
  intro h
  unfold atIs at h
  cases hk : l[k]? with
  | none => rw [hk] at h; cases h
  | some c =>
    rw [hk] at h
    obtain ⟨hlt, he⟩ := List.getElem?_eq_some_iff.1 hk
    refine ⟨?_, hlt⟩
    rw [List.drop_eq_getElem_cons hlt]
    unfold runLen
    rw [List.takeWhile_cons, he, if_pos h, List.length_cons]
theorem runLen_not (p : UInt8 → Bool) (l : List UInt8) (k : Nat) : atIs p l k = false → runLen p (l.drop k) = 0 := by
  intro h
  unfold atIs at h
  cases hk : l[k]? with
  | none =>
    have : l.drop k = [] := List.drop_eq_nil_of_le (by simpa using hk)
    rw [this]; rfl
  | some c =>
    rw [hk] at h
    obtain ⟨hlt, he⟩ := List.getElem?_eq_some_iff.1 hk
    rw [List.drop_eq_getElem_cons hlt]
    unfold runLen
    rw [List.takeWhile_cons, he, show p c = false from h]; rfl

set_option maxHeartbeats 1000000 in
theorem skip_any {g : Nat} {p : UInt8 → Bool} (hg : Cls g p) {rb : Nat} {s : ByteArray} {k : Nat} {w : World} (h : LR w rb s k) :
    Calls Tryz.prog 253 #[.pointer (some ⟨rb, 0, none⟩), .func (.func g) #[] #[]] w fun e w' => e = .returned (.tuple #[]) ∧ LR w' rb s (k + runLen p (s.data.toList.drop k)) ∧ Ext rb w w' := by
  have HG := Lib.hid hg; clear hg
  have H := Lib.hid h; clear h
  have hsz : s.size ≤ 4096 := H.out.2.2.2.2.2
  go_enter Tryz.func253, Tryz.ntmps253
  go_wp2_with fail
  go_loopg [] s.size (fun gf wr => ∃ j : Nat, Hid (s.size ≤ j + gf) ∧ Hid (LR wr rb s j) ∧ Hid (j + runLen p (s.data.toList.drop j) = k + runLen p (s.data.toList.drop k)) ∧ Hid (Ext rb w wr))
  case atStart => exact ⟨k, Lib.hid (by omega), H, Lib.hid rfl, Lib.hid (Ext.refl _ _)⟩
  case round =>
    obtain ⟨j, hj, HR, HS, HE⟩ := hrel
    cases ha : atIs p s.data.toList j
    · have H0 := Lib.hid ha; clear ha
      go_wp2_with fail
      refine (lis_any HG.out 0 (by decide) HR.out).mono ?_
      rintro e w1 ⟨rfl, hb1⟩
      rw [Nat.add_zero, H0.out]
      have HB1 := Lib.hid hb1; clear hb1
      go_wp2_with fail
      go_end0
      have h0 := runLen_not p s.data.toList j H0.out
      have := HS.out
      rw [h0] at this
      rw [← this, Nat.add_zero]
      exact ⟨rfl, HR.out.below HB1.out, HE.out.trans (Ext.of_below HB1.out)⟩
    · have H0 := Lib.hid ha; clear ha
      have h1 := runLen_at p s.data.toList j H0.out
      have hjl : j < s.size := h1.2
      have H1 := Lib.hid h1.1
      clear h1
      obtain ⟨r0, r1, r2, r3, r4, r5⟩ := HR.out
      go_wp2_with fail
      refine (lis_any HG.out 0 (by decide) HR.out).mono ?_
      rintro e w1 ⟨rfl, hb1⟩
      rw [Nat.add_zero, H0.out]
      have c2 : w1.cell? ⟨rb, 1, none⟩ = some (.int .i64 j) := by rw [hb1.cell (p := ⟨rb, 1, none⟩) r0]; exact r2
      have c3 : w1.frozen? ⟨rb, 1, none⟩ = false := by rw [hb1.frozen (p := ⟨rb, 1, none⟩) r0]; exact r3
      have HB1 := Lib.hid hb1; clear hb1
      clear r1 r2 r3
      go_wp2_with fail
      have hgk := hj.out
      go_roundg (gk - 1)
      case measure => omega
      case rel =>
        refine ⟨j + 1, Lib.hid (by omega), Lib.hid ?_, Lib.hid ?_, Lib.hid ?_⟩
        · exact (HR.out.below HB1.out).set (j + 1) hjl
        · rw [← HS.out, H1.out]; omega
        · exact (HE.out.trans (Ext.of_below HB1.out)).setCell (p := ⟨rb, 1, none⟩) (Or.inl rfl) _
end Go.Proofs.YtjojihadnplllaaGreatDoor
