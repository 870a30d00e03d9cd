/- Percentages (level.Percent): the level of a text. -/
import Derived.Test.YtjojihadnplllaaGreatDoorTxtC
namespace Go.Proofs.YtjojihadnplllaaGreatDoor
open Go.RowKit Go Go.Shelf Go.Proofs

theorem pred_333 (w : World) : PredAt Tryz.prog 333 #[] encR noDig w := fun W r _ => by
  unfold FnGives noDig
  by_cases h1 : 48 ≤ r <;> by_cases h2 : r ≤ 57
  all_goals
    have z1 : (48 : Int) ≤ (r : Int) ↔ 48 ≤ r := by omega
    have z2 : (r : Int) ≤ 57 ↔ r ≤ 57 := by omega
    go_enter Tryz.func333, Tryz.ntmps333
    go_wp2
    all_goals first | (exfalso; omega) | (go_ret; refine ⟨?_, 0, rfl⟩; first | exact congrArg (fun b => Ending.returned (.bool b)) (show (decide ((r : Int) < 48) || decide (57 < (r : Int))) = (decide (r < 48) || decide (57 < r)) by rw [Bool.eq_iff_iff]; simp; omega) | exact congrArg (fun b => Ending.returned (.bool b)) (show true = (decide (r < 48) || decide (57 < r)) by simp; omega))

/-- One to three digits. -/
def d3 (l : List UInt8) : Bool := decide (1 ≤ l.length) && decide (l.length ≤ 3) && l.all isDig

theorem idxF_range (s : ByteArray) : (Lib.idxFunc noDig true s < 0 ↔ s.data.toList.all isDig = true) := by
  have e := idx_noDig s s.size 0 (by omega)
  rw [List.drop_zero] at e
  constructor
  · intro h
    have : decide (0 ≤ Lib.idxFuncFrom noDig true s s.size 0) = false := by simp; exact h
    rw [this] at e; simpa using e.symm
  · intro h
    rw [h] at e
    simp at e; exact e

set_option maxHeartbeats 400000 in
theorem leveldigits_any (s : ByteArray) (w : World) (hs : s.size ≤ 10000000) :
    Calls Tryz.prog 319 #[.string s] w fun e w' => e = .returned (.bool (d3 s.data.toList)) ∧ Below w.heap.size w w' := by
  have hC : ∀ w : World, Calls Tryz.prog 304 #[.string s, .func (.func 333) #[] #[]] w fun e w' => e = .returned (.int .i64 (Lib.idxFunc noDig true s)) ∧ Below w.heap.size w w' :=
    fun w => Tryz.strings_IndexFunc 333 #[] (enters_of Tryz.func333 (by kernel_rfl) rfl) noDig s w (pred_333 w)
  have HC := Lib.hid hC; clear hC
  have hr := Lib.hid (idxF_range s)
  have hl : s.data.toList.length = s.size := rfl
  have HL := Lib.hid hl; clear hl
  by_cases h1 : 1 ≤ s.size
  · by_cases h3 : s.size ≤ 3
    · generalize Lib.idxFunc noDig true s = n at *
      by_cases hn : n < 0
      · have hz : d3 s.data.toList = true := by
          unfold d3; rw [HL.out, hr.out.1 hn]; simp [h1, h3]
        rw [hz]; clear hz
        go_enter Tryz.func319, Tryz.ntmps319
        go_wp2_with fail
        refine (HC.out _).mono ?_
        rintro e w1 ⟨rfl, hb⟩
        go_wp2_with fail
        go_ret
        exact ⟨rfl, hb⟩
      · have hz : d3 s.data.toList = false := by
          unfold d3; rw [HL.out]
          have : s.data.toList.all isDig = false := by
            cases h : s.data.toList.all isDig
            · rfl
            · exact absurd (hr.out.2 h) hn
          rw [this]; simp
        rw [hz]; clear hz
        have hn' : decide (n < 0) = false := by simpa using hn
        clear hn
        go_enter Tryz.func319, Tryz.ntmps319
        go_wp2_with fail
        refine (HC.out _).mono ?_
        rintro e w1 ⟨rfl, hb⟩
        go_wp2_with fail
        go_ret
        exact ⟨rfl, hb⟩
    · have hz : d3 s.data.toList = false := by unfold d3; rw [HL.out]; simp [h3]
      rw [hz]; clear hz
      go_enter Tryz.func319, Tryz.ntmps319
      go_wp2_with fail
      go_ret
      exact ⟨rfl, Below.refl _ _⟩
  · have hz : d3 s.data.toList = false := by unfold d3; rw [HL.out]; simp; intro h; omega
    rw [hz]; clear hz
    go_enter Tryz.func319, Tryz.ntmps319
    go_wp2_with fail
    go_ret
    exact ⟨rfl, Below.refl _ _⟩

theorem natFrom_append (l r : List UInt8) : ∀ n, natFrom n (l ++ r) = natFrom (natFrom n l) r := by
  induction l with
  | nil => intro n; rfl
  | cons c l ih => intro n; exact ih _
theorem mul_step (m n c p : Nat) (h : m ≤ (n * 10 + c + 1) * p) (hc : c ≤ 9) : m ≤ (n + 1) * (p * 10) := by
  have e : (n + 1) * (p * 10) = (n * 10 + 10) * p := by rw [Nat.mul_comm p 10, ← Nat.mul_assoc, Nat.add_mul]
  rw [e]; exact Nat.le_trans h (Nat.mul_le_mul_right p (by omega))
def pow10 (k : Nat) : Nat := 10 ^ k
theorem natFrom_lt (l : List UInt8) : ∀ n, l.all isDig = true → natFrom n l + 1 ≤ (n + 1) * pow10 l.length := by
  induction l with
  | nil => intro n _; show n + 1 ≤ (n + 1) * 1; omega
  | cons c l ih =>
    intro n h
    simp only [List.all_cons, Bool.and_eq_true] at h
    have hc := (isDig_iff c).1 h.1
    have := ih (n * 10 + (c.toNat - 48)) h.2
    have e : pow10 (c :: l).length = pow10 l.length * 10 := rfl
    rw [e]
    exact mul_step _ _ _ _ this (by omega)
theorem take_dig {l : List UInt8} (h : l.all isDig = true) (k : Nat) : (l.take k).all isDig = true := by
  rw [List.all_eq_true] at h ⊢
  exact fun x hx => h x (List.mem_of_mem_take hx)
theorem pow10_small (j : Nat) (h : j ≤ 3) : pow10 j ≤ 1000 := by
  rcases (by omega : j = 0 ∨ j = 1 ∨ j = 2 ∨ j = 3) with rfl | rfl | rfl | rfl <;> decide
theorem natFrom_small (x n q : Nat) (h1 : x + 1 ≤ q) (h4 : q ≤ (n + 1) * 1000) (hn : n ≤ 1000000) : x ≤ 1000001000 := by omega
theorem natFrom_take {l : List UInt8} (n : Nat) (hl : l.length ≤ 3) (hn : n ≤ 1000000) (h : l.all isDig = true) (k : Nat) : natFrom n (l.take k) ≤ 1000001000 :=
  natFrom_small _ n _ (natFrom_lt (l.take k) n (take_dig h k)) (Nat.mul_le_mul_left (n + 1) (pow10_small _ (by rw [List.length_take]; omega))) hn
theorem natFrom_snoc {l : List UInt8} (n k : Nat) (hk : k < l.length) : natFrom n (l.take (k + 1)) = natFrom n (l.take k) * 10 + ((l.getD k 0).toNat - 48) := by
  have e : l.getD k 0 = l[k] := by simp [List.getD, hk]
  rw [e, List.take_succ_eq_append_getElem hk, natFrom_append]
  rfl

set_option maxRecDepth 100000 in
set_option maxHeartbeats 400000 in
theorem fold_any (N : Nat) (n : Nat) (s : ByteArray) (w : World) (hs : s.size ≤ 3) (hd : s.data.toList.all isDig = true) (hn : n ≤ 1000000) (h0 : w.cell? ⟨N, 0, none⟩ = some (.int .i64 n)) (hf : w.frozen? ⟨N, 0, none⟩ = false) :
    Calls Tryz.prog 320 #[.string s, .pointer (some ⟨N, 0, none⟩)] w fun e w' => e = .returned (.tuple #[]) ∧ w'.cell? ⟨N, 0, none⟩ = some (.int .i64 (natFrom n s.data.toList)) ∧ w'.frozen? ⟨N, 0, none⟩ = false ∧ Ext N w w' := by
  have hN : N < w.heap.size := lt_of_cell h0
  have HD := Lib.hid hd; clear hd
  have hcv' := Lib.run_convert_string_bytes (P := Tryz.prog) w 9 75 5 s Tryz.underlying9 Tryz.underlying75 Tryz.underlying5
  have hbc := fun j hj => Lib.bytesWorld_cell w 5 s j hj
  have hbb := Lib.bytesWorld_below w 5 s
  have hbs := Lib.bytesWorld_size w 5 s
  obtain ⟨W, hWW⟩ : ∃ W, Lib.bytesWorld w 5 s = W := ⟨_, rfl⟩
  simp only [hWW] at hbc hbb hbs hcv'
  have hl : s.data.toList.length = s.size := rfl
  have HTK := fun k => natFrom_take (l := s.data.toList) n (by rw [hl]; exact hs) hn HD.out k
  have hW0 : W.cell? ⟨N, 0, none⟩ = some (.int .i64 n) := by rw [hbb.cell (p := ⟨N, 0, none⟩) hN]; exact h0
  have hWf : W.frozen? ⟨N, 0, none⟩ = false := by rw [hbb.frozen (p := ⟨N, 0, none⟩) hN]; exact hf
  have HTK' := Lib.hid HTK
  have HBC := Lib.hid hbc
  have HBB := Lib.hid hbb
  have HBS := Lib.hid hbs
  have HL := Lib.hid hl
  clear h0 hf HTK hbc hbb hbs hl hWW
  go_enter Tryz.func320, Tryz.ntmps320
  go_wp2_with fail
  go_loopw [8] (fun i wr => ∃ k : Nat, k ≤ s.size ∧ i = .int .i64 k ∧ wr.cell? ⟨N, 0, none⟩ = some (.int .i64 (natFrom n (s.data.toList.take k))) ∧ wr.frozen? ⟨N, 0, none⟩ = false ∧ Hid (Ext N W wr)) (fun i _ => s.size - (intOf i).toNat)
  case atStart => exact ⟨0, Nat.zero_le _, rfl, hW0, hWf, Lib.hid (Ext.refl _ _)⟩
  case round =>
    obtain ⟨k, hk, rfl, hc, hfr, HE⟩ := hrel
    by_cases hlt : k < s.size
    · have hb := HBC.out k hlt
      have hbw : wr.cell? ⟨w.heap.size, k, none⟩ = some (.int .u8 (s.data.toList.getD k 0).toNat) := by
        rw [HE.out.cell (p := ⟨w.heap.size, k, none⟩) (by rw [HBS.out]; show w.heap.size < _; omega) (by show w.heap.size ≠ N; omega)]; exact hb
      have hdk : 48 ≤ (s.data.toList.getD k 0).toNat ∧ (s.data.toList.getD k 0).toNat ≤ 57 := by
        have h := HD.out
        rw [List.all_eq_true] at h
        have e : s.data.toList.getD k 0 = s.data.toList[k]'(by rw [HL.out]; exact hlt) := by simp [List.getD, hlt]
        rw [e]; exact (isDig_iff _).1 (h _ (List.getElem_mem _))
      have hsn := natFrom_snoc (l := s.data.toList) n k (by rw [HL.out]; exact hlt)
      have ht := HTK'.out k
      clear hb
      generalize (s.data.toList.getD k 0).toNat = c at *
      generalize natFrom n (s.data.toList.take k) = x at *
      have HS := Lib.hid hsn; clear hsn
      have h48 : (48 : Int) ≤ (c : Int) := by omega
      have h57 : (c : Int) ≤ 57 := by omega
      go_wp2_with fail
      have hex : (10 : Int) * (x : Int) + ((c : Int) - 48) = ((natFrom n (s.data.toList.take (k + 1)) : Nat) : Int) := by rw [HS.out]; omega
      go_roundw
      case rel =>
        refine ⟨k + 1, by omega, by go_num, ?_, ?_, Lib.hid (HE.out.setCell (p := ⟨N, 0, none⟩) (Or.inl rfl) _)⟩
        · rw [hex]; exact World.cell?_setCell_same _ _ _ hc
        · simp [hfr]
      case measure => simp [intOf]; omega
    · obtain rfl : k = s.size := by omega
      go_wp2_with fail
      go_end0
      refine ⟨rfl, ?_, hfr, (Ext.of_below HBB.out).trans HE.out⟩
      rw [hc, List.take_of_length_le (by rw [HL.out]; exact Nat.le_refl _)]

/-- The decimals, filled up. -/
def fillL (b : List UInt8) : List UInt8 := (b ++ [48, 48, 48]).take 3
/-- Is a percentage wrong? -/
def badPer (a b : List UInt8) (p : Bool) : Bool := !d3 a || (decide (1 < a.length) && a.headD 0 == 48) || (p && !d3 b)
def thouL (a b : List UInt8) : Nat := natFrom (natFrom 0 a) (fillL b)

theorem fill_arg (b : List UInt8) : ((({ data := b.toArray } : ByteArray) ++ { data := #[48, 48, 48] }).extract 0 3) = ⟨(fillL b).toArray⟩ := by
  apply ByteArray.ext
  apply Array.toList_inj.1
  rw [Lib.extract_data, Joins.data_append]
  rfl

set_option maxRecDepth 100000 in
set_option maxHeartbeats 2000000 in
theorem thousandths_any (s : ByteArray) (w : World) (hs : s.size ≤ 4096) (hL : Laid w) {a b : List UInt8} {p : Bool} (hc : Lib.cut s.data.toList [46] = (a, b, p)) :
    Calls Tryz.prog 302 #[.string s] w fun e w' => e = .returned (.tuple #[.int .i64 (if badPer a b p = true then 0 else (thouL a b : Int)), .bool (!badPer a b p)]) ∧ Below w.heap.size w w' := by
  have hsz : s.data.toList.length = s.size := rfl
  have hab := cut_sizes hc
  rw [hsz] at hab
  have ha4 : a.length ≤ 4096 := by omega
  have hb4 : b.length ≤ 4096 := by omega
  clear hab hsz
  have hb0 : p = false → b = [] := by
    intro hp
    unfold Lib.cut at hc
    split at hc
    · simp only [Prod.mk.injEq] at hc; rw [hp] at hc; exact absurd hc.2.2 (by decide)
    · simp only [Prod.mk.injEq] at hc; exact hc.2.1.symm
  have HB0 := Lib.hid hb0; clear hb0
  have HC := Lib.hid hc; clear hc
  have HL := Lib.hid hL; clear hL
  obtain ⟨u, hu⟩ : ∃ u : ByteArray, u = ⟨a.toArray⟩ := ⟨_, rfl⟩
  have hul : u.data.toList = a := by rw [hu]
  have hus : u.size = a.length := by rw [hu]; rfl
  have HU := Lib.hid hu
  have HUL := Lib.hid hul
  have HUS := Lib.hid hus
  clear hu hul hus
  have hmf : ∀ (fn : Fn) (first cap : Array Value) (w : World), (Instr.makeFunc fn first cap).run Tryz.prog w = .ok (.func fn first cap) w := fun _ _ _ _ => rfl
  cases hd : d3 a
  · have hbad : badPer a b p = true := by unfold badPer; rw [hd]; rfl
    rw [hbad]; clear hbad
    have HD := Lib.hid hd; clear hd
    go_enter Tryz.func302, Tryz.ntmps302
    go_wp2_with fail
    refine (cut_any hs HL.out HC.out).mono ?_
    rintro e w1 ⟨rfl, hb1⟩
    rw [← HU.out]
    have HB1 := Lib.hid hb1; clear hb1
    go_wp2_with fail
    refine (leveldigits_any _ _ (by rw [HUS.out]; omega)).mono ?_
    rintro e w2 ⟨rfl, hb2⟩
    rw [HUL.out, HD.out]
    go_wp2_with fail
    go_ret2
    exact ⟨rfl, HB1.out.trans (hb2.mono HB1.out.size)⟩
  · have hpos : 0 < u.size := by
      rw [HUS.out]; unfold d3 at hd; simp at hd; omega
    by_cases hz : 1 < a.length ∧ a.headD 0 = 48
    · have hbad : badPer a b p = true := by unfold badPer; rw [hd]; simp; left; exact ⟨hz.1, by simpa using hz.2⟩
      rw [hbad]; clear hbad
      have h1 : 1 < u.size := by rw [HUS.out]; exact hz.1
      have h0 : ((u[0].toNat : Int) == 48) = true := by
        rw [bytes_get u hpos, HUL.out, hz.2]; rfl
      have HD := Lib.hid hd; clear hd hz
      go_enter Tryz.func302, Tryz.ntmps302
      go_wp2_with fail
      refine (cut_any hs HL.out HC.out).mono ?_
      rintro e w1 ⟨rfl, hb1⟩
      rw [← HU.out]
      have HB1 := Lib.hid hb1; clear hb1
      go_wp2_with fail
      refine (leveldigits_any _ _ (by rw [HUS.out]; omega)).mono ?_
      rintro e w2 ⟨rfl, hb2⟩
      rw [HUL.out, HD.out]
      go_wp2_with fail
      go_ret2
      exact ⟨rfl, HB1.out.trans (hb2.mono HB1.out.size)⟩
    · have h1' : 1 < u.size → ((u[0].toNat : Int) == 48) = false := by
        intro h
        have : a.headD 0 ≠ 48 := fun h' => hz ⟨by rw [← HUS.out]; exact h, h'⟩
        rw [bytes_get u hpos, HUL.out]
        simp [← UInt8.toNat_inj] at this ⊢
        omega
      have hz' : (decide (1 < a.length) && a.headD 0 == 48) = false := by
        cases h : (decide (1 < a.length) && a.headD 0 == 48)
        · rfl
        · simp at h; exact absurd ⟨h.1, by simpa using h.2⟩ hz
      have hda : a.length ≤ 3 ∧ a.all isDig = true := by unfold d3 at hd; simp at hd; exact ⟨hd.1.2, by simpa using hd.2⟩
      have HA3 := Lib.hid hda.1
      have HAD := Lib.hid hda.2
      have HNA := Lib.hid (show natFrom 0 a ≤ 1000000 by
        have h := natFrom_lt a 0 hda.2
        have h2 := pow10_small a.length hda.1
        rw [Nat.zero_add, Nat.one_mul] at h
        omega)
      clear hda
      have HD := Lib.hid hd; clear hd hz
      have HZ' := Lib.hid hz'; clear hz'
      cases hq : (p && !d3 b)
      · have hbad : badPer a b p = false := by unfold badPer; rw [HD.out, HZ'.out, hq]; rfl
        rw [hbad]
        simp only [Bool.false_eq_true, if_false]
        show Calls Tryz.prog 302 #[.string s] w fun e w' => e = .returned (.tuple #[.int .i64 (thouL a b : Int), .bool true]) ∧ Below w.heap.size w w'
        clear hbad
        have hbd : b.all isDig = true := by
          cases p
          · rw [HB0.out rfl]; rfl
          · simp at hq; unfold d3 at hq; simp at hq; simpa using hq.2
        have HF3 := Lib.hid (show (fillL b).length ≤ 3 by unfold fillL; rw [List.length_take]; omega)
        have HFD := Lib.hid (show (fillL b).all isDig = true by
          unfold fillL
          apply take_dig
          rw [List.all_append, hbd]; rfl)
        clear hbd
        unfold thouL
        by_cases h1 : 1 < u.size
        · have h0 := h1' h1
          clear h1'
          cases p
          · clear hq
            go_enter Tryz.func302, Tryz.ntmps302
            go_wp2_with fail
            refine (cut_any hs HL.out HC.out).mono ?_
            rintro e w1 ⟨rfl, hb1⟩
            rw [← HU.out]
            have HB1 := Lib.hid hb1; clear hb1
            go_wp2_with fail
            refine (leveldigits_any _ _ (by rw [HUS.out]; omega)).mono ?_
            rintro e w2 ⟨rfl, hb2⟩
            rw [HUL.out, HD.out]
            have HB2 := Lib.hid (HB1.out.trans (hb2.mono HB1.out.size)); clear hb2
            go_wp2_with fail
            refine (fold_any w2.heap.size 0 u _ (by rw [HUS.out]; exact HA3.out) (by rw [HUL.out]; exact HAD.out) (by omega) (by go_simp) (by go_simp)).mono ?_
            rintro e w4 ⟨rfl, hc4, hf4, he4⟩
            have hs4 : w2.heap.size < w4.heap.size := lt_of_cell hc4
            rw [HUL.out] at hc4
            have HE4 := Lib.hid he4; clear he4
            go_wp2_with fail
            rw [fill_arg]
            refine (fold_any w2.heap.size (natFrom 0 a) ⟨(fillL b).toArray⟩ _ (by exact HF3.out) (by exact HFD.out) HNA.out hc4 hf4).mono ?_
            rintro e w5 ⟨rfl, hc5, hf5, he5⟩
            have HE5 := Lib.hid he5; clear he5 hc4 hf4
            rw [show (ByteArray.mk (fillL b).toArray).data.toList = fillL b from rfl] at hc5
            go_wp2_with fail
            go_ret2
            refine ⟨rfl, ?_⟩
            have hx := (((Below.refl w2.heap.size w2).alloc (Nat.le_refl _) _).trans (((HE4.out.trans HE5.out).below (B := w2.heap.size) (Nat.le_refl _) (by simp))))
            exact HB2.out.trans (hx.mono HB2.out.size)
          · have HDB := Lib.hid (show d3 b = true by simpa using hq)
            clear hq
            go_enter Tryz.func302, Tryz.ntmps302
            go_wp2_with fail
            refine (cut_any hs HL.out HC.out).mono ?_
            rintro e w1 ⟨rfl, hb1⟩
            rw [← HU.out]
            have HB1 := Lib.hid hb1; clear hb1
            go_wp2_with fail
            refine (leveldigits_any _ _ (by rw [HUS.out]; omega)).mono ?_
            rintro e w2 ⟨rfl, hb2⟩
            rw [HUL.out, HD.out]
            have HB2 := Lib.hid (HB1.out.trans (hb2.mono HB1.out.size)); clear hb2
            go_wp2_with fail
            refine (leveldigits_any ⟨b.toArray⟩ _ (by show b.length ≤ _; omega)).mono ?_
            rintro e w3 ⟨rfl, hb3⟩
            rw [show (ByteArray.mk b.toArray).data.toList = b from rfl, HDB.out]
            have HB3 := Lib.hid (HB2.out.trans (hb3.mono HB2.out.size)); clear hb3
            go_wp2_with fail
            refine (fold_any w3.heap.size 0 u _ (by rw [HUS.out]; exact HA3.out) (by rw [HUL.out]; exact HAD.out) (by omega) (by go_simp) (by go_simp)).mono ?_
            rintro e w4 ⟨rfl, hc4, hf4, he4⟩
            have hs4 : w3.heap.size < w4.heap.size := lt_of_cell hc4
            rw [HUL.out] at hc4
            have HE4 := Lib.hid he4; clear he4
            go_wp2_with fail
            rw [fill_arg]
            refine (fold_any w3.heap.size (natFrom 0 a) ⟨(fillL b).toArray⟩ _ (by exact HF3.out) (by exact HFD.out) HNA.out hc4 hf4).mono ?_
            rintro e w5 ⟨rfl, hc5, hf5, he5⟩
            have HE5 := Lib.hid he5; clear he5 hc4 hf4
            rw [show (ByteArray.mk (fillL b).toArray).data.toList = fillL b from rfl] at hc5
            go_wp2_with fail
            go_ret2
            refine ⟨rfl, ?_⟩
            have hx := (((Below.refl w3.heap.size w3).alloc (Nat.le_refl _) _).trans (((HE4.out.trans HE5.out).below (B := w3.heap.size) (Nat.le_refl _) (by simp))))
            exact HB3.out.trans (hx.mono HB3.out.size)
        · clear h1'
          cases p
          · clear hq
            go_enter Tryz.func302, Tryz.ntmps302
            go_wp2_with fail
            refine (cut_any hs HL.out HC.out).mono ?_
            rintro e w1 ⟨rfl, hb1⟩
            rw [← HU.out]
            have HB1 := Lib.hid hb1; clear hb1
            go_wp2_with fail
            refine (leveldigits_any _ _ (by rw [HUS.out]; omega)).mono ?_
            rintro e w2 ⟨rfl, hb2⟩
            rw [HUL.out, HD.out]
            have HB2 := Lib.hid (HB1.out.trans (hb2.mono HB1.out.size)); clear hb2
            go_wp2_with fail
            refine (fold_any w2.heap.size 0 u _ (by rw [HUS.out]; exact HA3.out) (by rw [HUL.out]; exact HAD.out) (by omega) (by go_simp) (by go_simp)).mono ?_
            rintro e w4 ⟨rfl, hc4, hf4, he4⟩
            have hs4 : w2.heap.size < w4.heap.size := lt_of_cell hc4
            rw [HUL.out] at hc4
            have HE4 := Lib.hid he4; clear he4
            go_wp2_with fail
            rw [fill_arg]
            refine (fold_any w2.heap.size (natFrom 0 a) ⟨(fillL b).toArray⟩ _ (by exact HF3.out) (by exact HFD.out) HNA.out hc4 hf4).mono ?_
            rintro e w5 ⟨rfl, hc5, hf5, he5⟩
            have HE5 := Lib.hid he5; clear he5 hc4 hf4
            rw [show (ByteArray.mk (fillL b).toArray).data.toList = fillL b from rfl] at hc5
            go_wp2_with fail
            go_ret2
            refine ⟨rfl, ?_⟩
            have hx := (((Below.refl w2.heap.size w2).alloc (Nat.le_refl _) _).trans (((HE4.out.trans HE5.out).below (B := w2.heap.size) (Nat.le_refl _) (by simp))))
            exact HB2.out.trans (hx.mono HB2.out.size)
          · have HDB := Lib.hid (show d3 b = true by simpa using hq)
            clear hq
            go_enter Tryz.func302, Tryz.ntmps302
            go_wp2_with fail
            refine (cut_any hs HL.out HC.out).mono ?_
            rintro e w1 ⟨rfl, hb1⟩
            rw [← HU.out]
            have HB1 := Lib.hid hb1; clear hb1
            go_wp2_with fail
            refine (leveldigits_any _ _ (by rw [HUS.out]; omega)).mono ?_
            rintro e w2 ⟨rfl, hb2⟩
            rw [HUL.out, HD.out]
            have HB2 := Lib.hid (HB1.out.trans (hb2.mono HB1.out.size)); clear hb2
            go_wp2_with fail
            refine (leveldigits_any ⟨b.toArray⟩ _ (by show b.length ≤ _; omega)).mono ?_
            rintro e w3 ⟨rfl, hb3⟩
            rw [show (ByteArray.mk b.toArray).data.toList = b from rfl, HDB.out]
            have HB3 := Lib.hid (HB2.out.trans (hb3.mono HB2.out.size)); clear hb3
            go_wp2_with fail
            refine (fold_any w3.heap.size 0 u _ (by rw [HUS.out]; exact HA3.out) (by rw [HUL.out]; exact HAD.out) (by omega) (by go_simp) (by go_simp)).mono ?_
            rintro e w4 ⟨rfl, hc4, hf4, he4⟩
            have hs4 : w3.heap.size < w4.heap.size := lt_of_cell hc4
            rw [HUL.out] at hc4
            have HE4 := Lib.hid he4; clear he4
            go_wp2_with fail
            rw [fill_arg]
            refine (fold_any w3.heap.size (natFrom 0 a) ⟨(fillL b).toArray⟩ _ (by exact HF3.out) (by exact HFD.out) HNA.out hc4 hf4).mono ?_
            rintro e w5 ⟨rfl, hc5, hf5, he5⟩
            have HE5 := Lib.hid he5; clear he5 hc4 hf4
            rw [show (ByteArray.mk (fillL b).toArray).data.toList = fillL b from rfl] at hc5
            go_wp2_with fail
            go_ret2
            refine ⟨rfl, ?_⟩
            have hx := (((Below.refl w3.heap.size w3).alloc (Nat.le_refl _) _).trans (((HE4.out.trans HE5.out).below (B := w3.heap.size) (Nat.le_refl _) (by simp))))
            exact HB3.out.trans (hx.mono HB3.out.size)
      · have hbad : badPer a b p = true := by unfold badPer; rw [HD.out, HZ'.out, hq]; rfl
        rw [hbad]; clear hbad
        have hp : p = true := by cases p <;> simp_all
        subst hp
        have HDB := Lib.hid (show d3 b = false by simpa using hq)
        clear hq
        by_cases h1 : 1 < u.size
        · have h0 := h1' h1
          clear h1'
          go_enter Tryz.func302, Tryz.ntmps302
          go_wp2_with fail
          refine (cut_any hs HL.out HC.out).mono ?_
          rintro e w1 ⟨rfl, hb1⟩
          rw [← HU.out]
          have HB1 := Lib.hid hb1; clear hb1
          go_wp2_with fail
          refine (leveldigits_any _ _ (by rw [HUS.out]; omega)).mono ?_
          rintro e w2 ⟨rfl, hb2⟩
          rw [HUL.out, HD.out]
          have HB2 := Lib.hid (HB1.out.trans (hb2.mono HB1.out.size)); clear hb2
          go_wp2_with fail
          refine (leveldigits_any ⟨b.toArray⟩ _ (by show b.length ≤ _; omega)).mono ?_
          rintro e w3 ⟨rfl, hb3⟩
          rw [show (ByteArray.mk b.toArray).data.toList = b from rfl, HDB.out]
          have HB3 := Lib.hid (HB2.out.trans (hb3.mono HB2.out.size)); clear hb3
          go_wp2_with fail
          go_ret2
          exact ⟨rfl, HB3.out⟩
        · clear h1'
          go_enter Tryz.func302, Tryz.ntmps302
          go_wp2_with fail
          refine (cut_any hs HL.out HC.out).mono ?_
          rintro e w1 ⟨rfl, hb1⟩
          rw [← HU.out]
          have HB1 := Lib.hid hb1; clear hb1
          go_wp2_with fail
          refine (leveldigits_any _ _ (by rw [HUS.out]; omega)).mono ?_
          rintro e w2 ⟨rfl, hb2⟩
          rw [HUL.out, HD.out]
          have HB2 := Lib.hid (HB1.out.trans (hb2.mono HB1.out.size)); clear hb2
          go_wp2_with fail
          refine (leveldigits_any ⟨b.toArray⟩ _ (by show b.length ≤ _; omega)).mono ?_
          rintro e w3 ⟨rfl, hb3⟩
          rw [show (ByteArray.mk b.toArray).data.toList = b from rfl, HDB.out]
          have HB3 := Lib.hid (HB2.out.trans (hb3.mono HB2.out.size)); clear hb3
          go_wp2_with fail
          go_ret2
          exact ⟨rfl, HB3.out⟩

/-- The level of thousandths of a percent. -/
def ofT (n : Nat) : Nat := (65535 * n + 50000) / 100000
set_option maxRecDepth 100000 in
set_option maxHeartbeats 400000 in
theorem of_any (n : Nat) (w : World) (hn : n ≤ 1000001000) :
    Calls Tryz.prog 303 #[.int .i64 n] w fun e w' => e = .returned (.int .i64 (ofT n)) ∧ Below w.heap.size w w' := by
  have hz : ((ofT n : Nat) : Int) = (65535 * (n : Int) + 50000) / 100000 := by unfold ofT; omega
  rw [hz]; clear hz
  go_enter Tryz.func303, Tryz.ntmps303
  go_wp2_with fail
  go_ret
  exact ⟨rfl, Below.refl _ _⟩

/-- level.Percent: the level and 0, or 0 and the error. -/
def perL (l : List UInt8) : Int × Int :=
  if l = [102, 117, 108, 108] then (65535, 0)
  else
    match Lib.cut l [46] with
    | (a, b, p) =>
      if badPer a b p = true then (0, 3)
      else if 100000 < thouL a b then (0, 2) else (((ofT (thouL a b) : Nat) : Int), 0)

theorem thou_small {a b : List UInt8} {p : Bool} (h : badPer a b p = false) (hb : p = false → b = []) : thouL a b ≤ 1000001000 := by
  unfold badPer at h
  simp only [Bool.or_eq_false_iff, Bool.not_eq_false', Bool.and_eq_false_imp] at h
  have hd := h.1.1
  unfold d3 at hd
  simp only [Bool.and_eq_true, decide_eq_true_eq] at hd
  have hbd : b.all isDig = true := by
    cases p
    · rw [hb rfl]; rfl
    · have h2 := h.2 rfl
      unfold d3 at h2
      simp only [Bool.and_eq_true, decide_eq_true_eq] at h2
      exact h2.2
  have hn : natFrom 0 a ≤ 1000000 := by
    have h := natFrom_lt a 0 hd.2
    have h2 := pow10_small a.length hd.1.2
    rw [Nat.zero_add, Nat.one_mul] at h
    omega
  have := natFrom_take (l := fillL b) (natFrom 0 a) (by unfold fillL; rw [List.length_take]; omega) hn (by unfold fillL; apply take_dig; rw [List.all_append, hbd]; rfl) 3
  rw [List.take_of_length_le (by unfold fillL; rw [List.length_take]; omega)] at this
  exact this

set_option maxRecDepth 100000 in
set_option maxHeartbeats 1000000 in
theorem percent_any (s : ByteArray) (w : World) (hs : s.size ≤ 4096) (hL : Laid w) :
    Calls Tryz.prog 266 #[.string s] w fun e w' => e = .returned (.tuple #[.int .i64 (perL s.data.toList).1, .int .i64 (perL s.data.toList).2]) ∧ Below w.heap.size w w' := by
  by_cases hf : s.toList = [102, 117, 108, 108]
  · have hz : perL s.data.toList = (65535, 0) := by unfold perL; rw [if_pos (by rw [← ByteArray.toList_eq]; exact hf)]
    have hf' : (s.toList == [102, 117, 108, 108]) = true := by rw [hf]; rfl
    have HZ := Lib.hid hz
    clear hf hz
    go_enter Tryz.func266, Tryz.ntmps266
    go_wp2_with fail
    go_ret2
    rw [HZ.out]
    exact ⟨rfl, Below.refl _ _⟩
  · obtain ⟨⟨a, b, p⟩, hc⟩ : ∃ x, Lib.cut s.data.toList [46] = x := ⟨_, rfl⟩
    have hz : perL s.data.toList = if badPer a b p = true then (0, 3) else if 100000 < thouL a b then (0, 2) else (((ofT (thouL a b) : Nat) : Int), 0) := by
      unfold perL; rw [if_neg (by rw [← ByteArray.toList_eq]; exact hf), hc]
    have hb0 : p = false → b = [] := by
      intro hp
      have hc := hc
      unfold Lib.cut at hc
      split at hc
      · simp only [Prod.mk.injEq] at hc; rw [hp] at hc; exact absurd hc.2.2 (by decide)
      · simp only [Prod.mk.injEq] at hc; exact hc.2.1.symm
    have hf' : (s.toList == [102, 117, 108, 108]) = false := by simpa using hf
    have HZ := Lib.hid hz
    have HC := Lib.hid hc
    have HL := Lib.hid hL
    clear hf hz hc hL
    cases hbad : badPer a b p
    · have hsm := thou_small hbad hb0
      have HB := Lib.hid hbad
      clear hbad hb0
      generalize ht : thouL a b = n at *
      have HT := Lib.hid ht; clear ht
      by_cases hn : 100000 < n
      · have HR := Lib.hid (HZ.out.trans ((if_neg (by rw [HB.out]; decide)).trans (if_pos hn)))
        go_enter Tryz.func266, Tryz.ntmps266
        go_wp2_with fail
        refine (thousandths_any s _ hs HL.out HC.out).mono ?_
        rintro e w1 ⟨rfl, hb1⟩
        rw [HB.out, HT.out]
        simp only [Bool.false_eq_true, if_false, Bool.not_false]
        have HB1 := Lib.hid hb1; clear hb1
        go_wp2_with fail
        go_ret2
        rw [HR.out]
        exact ⟨rfl, HB1.out⟩
      · have HR := Lib.hid (HZ.out.trans ((if_neg (by rw [HB.out]; decide)).trans (if_neg hn)))
        go_enter Tryz.func266, Tryz.ntmps266
        go_wp2_with fail
        refine (thousandths_any s _ hs HL.out HC.out).mono ?_
        rintro e w1 ⟨rfl, hb1⟩
        rw [HB.out, HT.out]
        simp only [Bool.false_eq_true, if_false, Bool.not_false]
        have HB1 := Lib.hid hb1; clear hb1
        go_wp2_with fail
        refine (of_any n _ hsm).mono ?_
        rintro e w2 ⟨rfl, hb2⟩
        go_wp2_with fail
        go_ret2
        rw [HR.out]
        exact ⟨rfl, HB1.out.trans (hb2.mono HB1.out.size)⟩
    · have HR := Lib.hid (HZ.out.trans (if_pos hbad))
      have HB := Lib.hid hbad
      clear hbad hb0
      go_enter Tryz.func266, Tryz.ntmps266
      go_wp2_with fail
      refine (thousandths_any s _ hs HL.out HC.out).mono ?_
      rintro e w1 ⟨rfl, hb1⟩
      rw [HB.out]
      simp only [if_true, Bool.not_true]
      have HB1 := Lib.hid hb1; clear hb1
      go_wp2_with fail
      go_ret2
      rw [HR.out]
      exact ⟨rfl, HB1.out⟩
end Go.Proofs.YtjojihadnplllaaGreatDoor
