/- Numbers of cues (number.Check): which texts are numbers. -/
import Derived.Test.YtjojihadnplllaaGreatDoorTxtB
import Derived.Laws.EntriesVeiled
namespace Go.Proofs.YtjojihadnplllaaGreatDoor
open Go.RowKit Go Go.Shelf Go.Proofs

theorem lt_of_cell {w : World} {b o : Nat} {v : Value} (h : w.cell? ⟨b, o, none⟩ = some v) : b < w.heap.size := by
  unfold World.cell? at h
  by_cases hb : b < w.heap.size
  · exact hb
  · have : w.heap[b]? = none := Array.getElem?_eq_none (by omega)
    rw [this] at h; cases h
/-- Is a rune no digit? -/
def noDig (r : Nat) : Bool := decide (r < 48) || decide (57 < r)

theorem noDig_byte (b : UInt8) : noDig b.toNat = !isDig b := by
  have h := isDig_iff b
  unfold noDig
  cases hd : isDig b
  · have : ¬ (48 ≤ b.toNat ∧ b.toNat ≤ 57) := by rw [← h, hd]; decide
    simp; omega
  · have := h.1 hd
    simp; omega

theorem decode_small (s : ByteArray) (i : Nat) (h : (s.get! (i + 0)).toNat < 128) : Utf8.decode s i = ((s.get! (i + 0)).toNat, 1) := by
  unfold Utf8.decode
  simp only []
  rw [if_pos h]
theorem decode_big (s : ByteArray) (i : Nat) (h : ¬ (s.get! (i + 0)).toNat < 128) : 128 ≤ (Utf8.decode s i).1 := by
  unfold Utf8.decode
  simp only []
  rw [if_neg h]
  have hr : 128 ≤ Utf8.runeError := by decide
  split
  · split
    · show 128 ≤ _; omega
    · exact hr
  · split
    · split
      · rename_i h3; simp only [Bool.and_eq_true, decide_eq_true_eq] at h3; have := h3.1; show 128 ≤ _; omega
      · exact hr
    · split
      · split
        · rename_i h3; simp only [Bool.and_eq_true, decide_eq_true_eq] at h3; have := h3.1; show 128 ≤ _; omega
        · exact hr
      · exact hr

theorem get!_eq (s : ByteArray) (i : Nat) (h : i < s.data.toList.length) : s.get! i = s.data.toList[i] := by
  rcases s with ⟨⟨l⟩⟩
  simp only [ByteArray.get!]
  simp at h ⊢
  rw [List.getElem?_eq_getElem h]; rfl

theorem idx_noDig (s : ByteArray) : ∀ (f pos : Nat), s.size ≤ pos + f → decide (0 ≤ Lib.idxFuncFrom noDig true s f pos) = !((s.data.toList.drop pos).all isDig)
  | 0, pos, h => by
    have : s.data.toList.drop pos = [] := List.drop_eq_nil_of_le (by show s.size ≤ pos; omega)
    rw [this]; rfl
  | f + 1, pos, h => by
    unfold Lib.idxFuncFrom
    by_cases hp : pos < s.size
    · rw [if_pos hp]
      have hl : pos < s.data.toList.length := hp
      rw [List.drop_eq_getElem_cons hl, List.all_cons]
      have hg := get!_eq s pos hl
      by_cases hs : (s.get! (pos + 0)).toNat < 128
      · rw [decode_small s pos hs]
        simp only [Nat.add_zero, hg] at hs ⊢
        rw [noDig_byte]
        cases hd : isDig s.data.toList[pos]
        · simp
        · simp only [Bool.not_true, Bool.false_eq_true, if_false, Bool.true_and]
          exact idx_noDig s f (pos + 1) (by omega)
      · have hb := decode_big s pos hs
        have h1 : noDig (Utf8.decode s pos).1 = true := by unfold noDig; simp; omega
        have h2 : isDig s.data.toList[pos] = false := by
          rw [Nat.add_zero, hg] at hs
          have := isDig_iff s.data.toList[pos]
          cases hd : isDig s.data.toList[pos]
          · rfl
          · have := this.1 hd; omega
        rw [if_pos h1, h2]; simp
    · rw [if_neg hp]
      have : s.data.toList.drop pos = [] := List.drop_eq_nil_of_le (by show s.size ≤ pos; omega)
      rw [this]; rfl

theorem pred_277 (w : World) : PredAt Tryz.prog 277 #[] encR noDig w := fun W r _ => by
  unfold FnGives noDig
  by_cases h1 : 48 ≤ r <;> by_cases h2 : r ≤ 57
  all_goals
    have z1 : (48 : Int) ≤ (r : Int) ↔ 48 ≤ r := by omega
    have z2 : (r : Int) ≤ 57 ↔ r ≤ 57 := by omega
    go_enter Tryz.func277, Tryz.ntmps277
    go_wp2
    all_goals first | (exfalso; omega) | (go_ret; refine ⟨?_, 0, rfl⟩; first | exact congrArg (fun b => Ending.returned (.bool b)) (show (decide ((r : Int) < 48) || decide (57 < (r : Int))) = (decide (r < 48) || decide (57 < r)) by rw [Bool.eq_iff_iff]; simp; omega) | exact congrArg (fun b => Ending.returned (.bool b)) (show true = (decide (r < 48) || decide (57 < r)) by simp; omega))

/-- Digits, at least one. -/
def digs (l : List UInt8) : Bool := !l.isEmpty && l.all isDig

set_option maxHeartbeats 400000 in
theorem numdigits_any (s : ByteArray) (w : World) :
    Calls Tryz.prog 209 #[.string s] w fun e w' => e = .returned (.bool (digs s.data.toList)) ∧ Below w.heap.size w w' := by
  have hC : ∀ w : World, Calls Tryz.prog 276 #[.string s, .func (.func 277) #[] #[]] w fun e w' => e = .returned (.bool (!(s.data.toList.all isDig))) ∧ Below w.heap.size w w' := fun w => by
    have := Tryz.strings_ContainsFunc 277 #[] (enters_of Tryz.func277 (by kernel_rfl) rfl) noDig s w (pred_277 w)
    have e := idx_noDig s s.size 0 (by omega)
    rw [List.drop_zero] at e
    rw [← e]; exact this
  have HC := Lib.hid hC; clear hC
  by_cases h0 : s.toList.isEmpty = true
  · have hz : digs s.data.toList = false := by unfold digs; rw [← ByteArray.toList_eq, h0]; rfl
    rw [hz]; clear hz
    go_enter Tryz.func209, Tryz.ntmps209
    go_wp2_with fail
    go_ret
    exact ⟨rfl, Below.refl _ _⟩
  · have h0' : s.toList.isEmpty = false := by simpa using h0
    have hz : digs s.data.toList = !(!(s.data.toList.all isDig)) := by unfold digs; rw [← ByteArray.toList_eq, h0']; simp
    rw [hz]; clear hz h0
    generalize s.data.toList.all isDig = x at *
    go_enter Tryz.func209, Tryz.ntmps209
    go_wp2_with fail
    refine (HC.out _).mono ?_
    rintro e w1 ⟨rfl, hb⟩
    go_wp2_with fail
    go_ret
    exact ⟨by rw [Bool.not_not]; rfl, hb⟩

set_option maxHeartbeats 400000 in
theorem form1_any (T : Nat) (a : ByteArray) (w : World) (h0 : w.cell? ⟨T, 0, none⟩ = some (.string a)) :
    Calls Tryz.prog 208 #[.pointer (some ⟨T, 0, none⟩)] w fun e w' => e = .returned (.bool (digs a.data.toList)) ∧ Below w.heap.size w w' := by
  go_enter Tryz.func208, Tryz.ntmps208
  go_wp2_with fail
  refine (numdigits_any _ _).mono ?_
  rintro e w1 ⟨rfl, hb⟩
  go_wp2_with fail
  go_ret
  exact ⟨rfl, hb⟩

/-- The second form: what stands behind a point. -/
def form2 (b : List UInt8) (p : Bool) : Bool := !p || (digs b && !Lib.hasSuffix b [48])

set_option maxHeartbeats 400000 in
theorem form2_any (T : Nat) (b : ByteArray) (p : Bool) (w : World) (hs : b.size ≤ 10000000) (h1 : w.cell? ⟨T, 1, none⟩ = some (.string b)) (h2 : w.cell? ⟨T, 2, none⟩ = some (.bool p)) :
    Calls Tryz.prog 210 #[.pointer (some ⟨T, 0, none⟩)] w fun e w' => e = .returned (.bool (form2 b.data.toList p)) ∧ Below w.heap.size w w' := by
  cases p
  · go_enter Tryz.func210, Tryz.ntmps210
    go_wp2_with fail
    go_ret
    exact ⟨rfl, Below.refl _ _⟩
  · have hT : T < w.heap.size := lt_of_cell h1
    cases hd : digs b.data.toList
    · have hz : form2 b.data.toList true = false := by unfold form2; rw [hd]; rfl
      rw [hz]; clear hz
      have HD := Lib.hid hd; clear hd
      go_enter Tryz.func210, Tryz.ntmps210
      go_wp2_with fail
      refine (numdigits_any _ _).mono ?_
      rintro e w1 ⟨rfl, hb⟩
      rw [HD.out]
      go_wp2_with fail
      go_ret
      exact ⟨rfl, hb⟩
    · have hz : form2 b.data.toList true = !Lib.hasSuffix b.data.toList [48] := by unfold form2; rw [hd]; rfl
      rw [hz]; clear hz
      have HD := Lib.hid hd; clear hd
      go_enter Tryz.func210, Tryz.ntmps210
      go_wp2_with fail
      refine (numdigits_any _ _).mono ?_
      rintro e w1 ⟨rfl, hb⟩
      rw [HD.out]
      have hc1 : w1.cell? ⟨T, 1, none⟩ = some (.string b) := by rw [hb.cell (p := ⟨T, 1, none⟩) hT]; exact h1
      have HB := Lib.hid hb; clear hb
      go_wp2_with fail
      refine (Tryz.strings_HasSuffix b ⟨#[48]⟩ _ (by omega)).mono ?_
      rintro e w2 ⟨rfl, rfl⟩
      rw [show ({ data := #[48] } : ByteArray).data.toList = [48] from rfl]
      generalize hx : Lib.hasSuffix b.data.toList [48] = x
      have HX := Lib.hid hx; clear hx
      go_wp2_with fail
      go_ret
      rw [HX.out]
      exact ⟨rfl, HB.out⟩

/-- The third form: no zero in front. -/
def form3 (a : List UInt8) : Bool := a.length == 1 || a.headD 0 != 48

set_option maxHeartbeats 400000 in
theorem form3_any (T : Nat) (a : ByteArray) (w : World) (hpos : 0 < a.size) (h0 : w.cell? ⟨T, 0, none⟩ = some (.string a)) :
    Calls Tryz.prog 211 #[.pointer (some ⟨T, 0, none⟩)] w fun e w' => e = .returned (.bool (form3 a.data.toList)) ∧ Below w.heap.size w w' := by
  by_cases h1 : a.size = 1
  · have hz : form3 a.data.toList = true := by
      unfold form3; rw [show a.data.toList.length = a.size from rfl, h1]; rfl
    rw [hz]; clear hz
    have hi : (((a.size : Nat) : Int) == 1) = true := by rw [h1]; rfl
    clear h1
    go_enter Tryz.func211, Tryz.ntmps211
    go_wp2_with fail
    go_ret
    exact ⟨rfl, Below.refl _ _⟩
  · have hz : form3 a.data.toList = ((a[0].toNat : Int) != 48) := by
      unfold form3; rw [show a.data.toList.length = a.size from rfl, bytes_get a hpos]
      rw [Bool.eq_iff_iff]; simp [← UInt8.toNat_inj, h1]; omega
    rw [hz]; clear hz
    have hi : (((a.size : Nat) : Int) == 1) = false := by simp; omega
    clear h1
    go_enter Tryz.func211, Tryz.ntmps211
    go_wp2_with fail
    go_ret
    exact ⟨rfl, Below.refl _ _⟩

/-- number.Check: 0, or the error. -/
def numChk (l : List UInt8) : Int :=
  match Lib.cut l [46] with
  | (a, b, p) =>
    if digs a = false then 3 else if form2 b p = false then 3 else if form3 a = false then 3
    else if l = [48] ∨ 4 < a.length ∨ 3 < b.length then 2 else 0

set_option maxHeartbeats 2000000 in
theorem numcheck_any (s : ByteArray) (w : World) (hs : s.size ≤ 4096) (hL : Laid w) :
    Calls Tryz.prog 107 #[.string s] w fun e w' => e = .returned (.int .i64 (numChk s.data.toList)) ∧ Below w.heap.size w w' := by
  obtain ⟨⟨a, b, p⟩, hc⟩ : ∃ x, Lib.cut s.data.toList [46] = x := ⟨_, rfl⟩
  have hsz : s.data.toList.length = s.size := rfl
  have hab := cut_sizes hc
  rw [hsz] at hab
  have ha4 : a.length ≤ 4096 := by omega
  have hb4 : b.length ≤ 4096 := by omega
  clear hab hsz
  have hz : numChk s.data.toList = if digs a = false then 3 else if form2 b p = false then 3 else if form3 a = false then 3
    else if s.data.toList = [48] ∨ 4 < a.length ∨ 3 < b.length then 2 else 0 := by unfold numChk; rw [hc]
  have HZ := Lib.hid hz; clear hz
  have HC := Lib.hid hc; clear hc
  have HL := Lib.hid hL; clear hL
  have hmf : ∀ (fn : Fn) (first cap : Array Value) (w : World), (Instr.makeFunc fn first cap).run Tryz.prog w = .ok (.func fn first cap) w := fun _ _ _ _ => rfl
  go_enter Tryz.func107, Tryz.ntmps107
  go_wp2_with fail
  refine (cut_any hs (HL.out.below ((Below.refl 12 _).alloc HL.out.size _)) HC.out).mono ?_
  rintro e w1 ⟨rfl, hb1⟩
  have hc0 : w1.cell? ⟨w.heap.size, 0, none⟩ = some (.string ⟨#[]⟩) := by
    rw [hb1.cell (p := ⟨w.heap.size, 0, none⟩) (by simp)]; simp [go_sem]
  have hc1 : w1.cell? ⟨w.heap.size, 1, none⟩ = some (.string ⟨#[]⟩) := by
    rw [hb1.cell (p := ⟨w.heap.size, 1, none⟩) (by simp)]; simp [go_sem]
  have hc2 : w1.cell? ⟨w.heap.size, 2, none⟩ = some (.bool false) := by
    rw [hb1.cell (p := ⟨w.heap.size, 2, none⟩) (by simp)]; simp [go_sem]
  have hf : ∀ i, w1.frozen? ⟨w.heap.size, i, none⟩ = false := fun i => by
    rw [hb1.frozen (p := ⟨w.heap.size, i, none⟩) (by simp)]; simp [go_sem]
  have hs1 : w.heap.size < w1.heap.size := by have := hb1.size; simp at this; omega
  have HB1 := Lib.hid hb1; clear hb1
  go_wp2_with fail
  have hT : w.heap.size < w1.heap.size := hs1
  go_loopw [22] (fun i wr => ∃ k : Nat, k ≤ 3 ∧ i = .int .i64 k ∧ Hid ((0 < k → digs a = true) ∧ (1 < k → form2 b p = true) ∧ (2 < k → form3 a = true)) ∧
      wr.cell? ⟨w.heap.size, 0, none⟩ = some (.string ⟨a.toArray⟩) ∧ wr.cell? ⟨w.heap.size, 1, none⟩ = some (.string ⟨b.toArray⟩) ∧ wr.cell? ⟨w.heap.size, 2, none⟩ = some (.bool p) ∧
      wr.cell? ⟨w1.heap.size, 0, none⟩ = some (.func (.func 208) #[] #[.pointer (some ⟨w.heap.size, 0, none⟩)]) ∧ wr.cell? ⟨w1.heap.size, 1, none⟩ = some (.func (.func 210) #[] #[.pointer (some ⟨w.heap.size, 0, none⟩)]) ∧
      wr.cell? ⟨w1.heap.size, 2, none⟩ = some (.func (.func 211) #[] #[.pointer (some ⟨w.heap.size, 0, none⟩)]) ∧ w1.heap.size < wr.heap.size ∧ Hid (Below w.heap.size w wr)) (fun i _ => 3 - (intOf i).toNat)
  case atStart =>
    refine ⟨0, by omega, rfl, ⟨by omega, by omega, by omega⟩, ?_, ?_, ?_, ?_, ?_, ?_, ?_, ?_⟩
    · go_simp
    · go_simp
    · go_simp
    · go_simp
    · go_simp
    · go_simp
    · simp
    · exact Lib.hid ((((((Below.refl _ _).alloc (Nat.le_refl _) _).trans (HB1.out.mono (by simp))).setCell (by simp) _).setCell (by simp) _).setCell (by simp) _ |>.alloc (by simp; omega) _)
  case round =>
    obtain ⟨k, hk, rfl, hP, t0, t1, t2, f0, f1, f2, hsz, HB⟩ := hrel
    have HLr := Lib.hid (HL.out.below (HB.out.mono HL.out.size))
    have hTr : w.heap.size < wr.heap.size := by omega
    by_cases k0 : k = 0
    · subst k0
      go_wp2_with fail
      refine (form1_any _ _ _ t0).mono ?_
      rintro e w2 ⟨rfl, hb2⟩
      rw [show (ByteArray.mk a.toArray).data.toList = a from rfl]
      cases hd : digs a
      · have HR := Lib.hid (HZ.out.trans (if_pos hd))
        clear hd
        go_wp2_with fail
        go_ret
        rw [HR.out]
        exact ⟨rfl, HB.out.trans (hb2.mono HB.out.size)⟩
      · have HD := Lib.hid hd; clear hd
        have HB2 := Lib.hid hb2; clear hb2
        go_wp2_with fail
        go_roundw
        case rel =>
          refine ⟨1, by omega, by go_num, Lib.hid ⟨fun _ => HD.out, by omega, by omega⟩, ?_, ?_, ?_, ?_, ?_, ?_, ?_, Lib.hid (HB.out.trans (HB2.out.mono HB.out.size))⟩
          · rw [HB2.out.cell (p := ⟨w.heap.size, 0, none⟩) hTr]; exact t0
          · rw [HB2.out.cell (p := ⟨w.heap.size, 1, none⟩) hTr]; exact t1
          · rw [HB2.out.cell (p := ⟨w.heap.size, 2, none⟩) hTr]; exact t2
          · rw [HB2.out.cell (p := ⟨w1.heap.size, 0, none⟩) hsz]; exact f0
          · rw [HB2.out.cell (p := ⟨w1.heap.size, 1, none⟩) hsz]; exact f1
          · rw [HB2.out.cell (p := ⟨w1.heap.size, 2, none⟩) hsz]; exact f2
          · have := HB2.out.size; omega
        case measure => simp [intOf]
    · by_cases k1 : k = 1
      · subst k1
        have HD1 := Lib.hid (hP.out.1 (by omega))
        go_wp2_with fail
        refine (form2_any _ _ p _ (by show b.length ≤ _; omega) t1 t2).mono ?_
        rintro e w2 ⟨rfl, hb2⟩
        rw [show (ByteArray.mk b.toArray).data.toList = b from rfl]
        cases hd : form2 b p
        · have HR := Lib.hid (HZ.out.trans ((if_neg (by rw [HD1.out]; decide)).trans (if_pos hd)))
          clear hd
          go_wp2_with fail
          go_ret
          rw [HR.out]
          exact ⟨rfl, HB.out.trans (hb2.mono HB.out.size)⟩
        · have HD := Lib.hid hd; clear hd
          have HB2 := Lib.hid hb2; clear hb2
          go_wp2_with fail
          go_roundw
          case rel =>
            refine ⟨2, by omega, by go_num, Lib.hid ⟨fun _ => HD1.out, fun _ => HD.out, by omega⟩, ?_, ?_, ?_, ?_, ?_, ?_, ?_, Lib.hid (HB.out.trans (HB2.out.mono HB.out.size))⟩
            · rw [HB2.out.cell (p := ⟨w.heap.size, 0, none⟩) hTr]; exact t0
            · rw [HB2.out.cell (p := ⟨w.heap.size, 1, none⟩) hTr]; exact t1
            · rw [HB2.out.cell (p := ⟨w.heap.size, 2, none⟩) hTr]; exact t2
            · rw [HB2.out.cell (p := ⟨w1.heap.size, 0, none⟩) hsz]; exact f0
            · rw [HB2.out.cell (p := ⟨w1.heap.size, 1, none⟩) hsz]; exact f1
            · rw [HB2.out.cell (p := ⟨w1.heap.size, 2, none⟩) hsz]; exact f2
            · have := HB2.out.size; omega
          case measure => simp [intOf]
      · by_cases k2 : k = 2
        · subst k2
          have HD1 := Lib.hid (hP.out.1 (by omega))
          have HD2 := Lib.hid (hP.out.2.1 (by omega))
          have hpos : 0 < a.length := by
            have := HD1.out
            cases a with
            | nil => exact absurd this (by decide)
            | cons x l => simp
          go_wp2_with fail
          refine (form3_any _ _ _ (by exact hpos) t0).mono ?_
          rintro e w2 ⟨rfl, hb2⟩
          rw [show (ByteArray.mk a.toArray).data.toList = a from rfl]
          cases hd : form3 a
          · have HR := Lib.hid (HZ.out.trans ((if_neg (by rw [HD1.out]; decide)).trans ((if_neg (by rw [HD2.out]; decide)).trans (if_pos hd))))
            clear hd
            go_wp2_with fail
            go_ret
            rw [HR.out]
            exact ⟨rfl, HB.out.trans (hb2.mono HB.out.size)⟩
          · have HD := Lib.hid hd; clear hd
            have HB2 := Lib.hid hb2; clear hb2
            go_wp2_with fail
            go_roundw
            case rel =>
              refine ⟨3, by omega, by go_num, Lib.hid ⟨fun _ => HD1.out, fun _ => HD2.out, fun _ => HD.out⟩, ?_, ?_, ?_, ?_, ?_, ?_, ?_, Lib.hid (HB.out.trans (HB2.out.mono HB.out.size))⟩
              · rw [HB2.out.cell (p := ⟨w.heap.size, 0, none⟩) hTr]; exact t0
              · rw [HB2.out.cell (p := ⟨w.heap.size, 1, none⟩) hTr]; exact t1
              · rw [HB2.out.cell (p := ⟨w.heap.size, 2, none⟩) hTr]; exact t2
              · rw [HB2.out.cell (p := ⟨w1.heap.size, 0, none⟩) hsz]; exact f0
              · rw [HB2.out.cell (p := ⟨w1.heap.size, 1, none⟩) hsz]; exact f1
              · rw [HB2.out.cell (p := ⟨w1.heap.size, 2, none⟩) hsz]; exact f2
              · have := HB2.out.size; omega
            case measure => simp [intOf]
        · obtain rfl : k = 3 := by omega
          have HR := Lib.hid (HZ.out.trans ((if_neg (by rw [hP.out.1 (by omega)]; decide)).trans ((if_neg (by rw [hP.out.2.1 (by omega)]; decide)).trans (if_neg (by rw [hP.out.2.2 (by omega)]; decide)))))
          clear hP
          by_cases h0 : s.toList = [48]
          · have HR2 := Lib.hid (HR.out.trans (if_pos (Or.inl (by rw [← ByteArray.toList_eq]; exact h0))))
            have h0' : (s.toList == [48]) = true := by rw [h0]; rfl
            clear h0
            go_wp2_with fail
            go_ret
            rw [HR2.out]
            exact ⟨rfl, HB.out⟩
          · have h0' : (s.toList == [48]) = false := by simpa using h0
            have h0'' : ¬ s.data.toList = [48] := by rw [← ByteArray.toList_eq]; exact h0
            have H0 := Lib.hid h0''
            clear h0 h0''
            by_cases h4 : 4 < a.length
            · have HR2 := Lib.hid (HR.out.trans (if_pos (Or.inr (Or.inl h4))))
              go_wp2_with fail
              go_ret
              rw [HR2.out]
              exact ⟨rfl, HB.out⟩
            · by_cases h3 : 3 < b.length
              · have HR2 := Lib.hid (HR.out.trans (if_pos (Or.inr (Or.inr h3))))
                go_wp2_with fail
                go_ret
                rw [HR2.out]
                exact ⟨rfl, HB.out⟩
              · have HR2 := Lib.hid (HR.out.trans (if_neg (by rintro (h | h | h); exact H0.out h; exact h4 h; exact h3 h)))
                go_wp2_with fail
                go_ret
                rw [HR2.out]
                exact ⟨rfl, HB.out⟩
end Go.Proofs.YtjojihadnplllaaGreatDoor
