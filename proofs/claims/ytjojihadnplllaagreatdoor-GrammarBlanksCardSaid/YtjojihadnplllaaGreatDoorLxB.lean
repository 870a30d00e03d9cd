/- The lexer's lower: a text with lower-case letters. -/
import Derived.Test.YtjojihadnplllaaGreatDoorLxA
namespace Go.Proofs.YtjojihadnplllaaGreatDoor
open Go.RowKit Go Go.Shelf Go.Proofs

def lowB (c : UInt8) : UInt8 := if isUp c then c + 32 else c
def lowL (l : List UInt8) : List UInt8 := l.map lowB

theorem lowB_nat (c : UInt8) (h : isUp c = true) : ((lowB c).toNat : Int) = (c.toNat : Int) + 32 := by
  have h2 := h
  unfold isUp at h2
  simp [UInt8.le_iff_toNat_le] at h2
  unfold lowB
  rw [if_pos h, UInt8.toNat_add]
  simp; omega
theorem lowB_not (c : UInt8) (h : isUp c = false) : lowB c = c := by unfold lowB; rw [h]; rfl

theorem bytesWorld_frozen (w : World) (e : TypeId) (s : ByteArray) (j : Nat) (hj : j < s.size) : (Lib.bytesWorld w e s).frozen? ⟨w.heap.size, j, none⟩ = false := by
  unfold World.frozen?
  rw [show (Lib.bytesWorld w e s).heap[(⟨w.heap.size, j, none⟩ : Addr).block]? = _ from Lib.bytesWorld_at_new w e s]
  have : s.size ≤ (Lib.bytesCells w e s).size := by unfold Lib.bytesCells; simp
  simp; omega

set_option maxRecDepth 100000 in
set_option maxHeartbeats 1000000 in
theorem lower_any (s : ByteArray) (w : World) (hs : s.size ≤ 4096) :
    Calls Tryz.prog 259 #[.string s] w fun e w' => e = .returned (.string ⟨(lowL s.data.toList).toArray⟩) ∧ Below w.heap.size w w' := by
  have hcv := Lib.run_convert_string_bytes (P := Tryz.prog) w 9 75 5 s Tryz.underlying9 Tryz.underlying75 Tryz.underlying5
  have hbc := fun j hj => Lib.bytesWorld_cell w 5 s j hj
  have hbf := fun j hj => bytesWorld_frozen w 5 s j hj
  have hbb := Lib.bytesWorld_below w 5 s
  have hbs := Lib.bytesWorld_size w 5 s
  obtain ⟨W, hWW⟩ : ∃ W, Lib.bytesWorld w 5 s = W := ⟨_, rfl⟩
  simp only [hWW] at hbc hbb hbs hcv hbf
  have hl : s.data.toList.length = s.size := rfl
  have HBC := Lib.hid hbc
  have HBF := Lib.hid hbf
  have HBB := Lib.hid hbb
  have HBS := Lib.hid hbs
  have HL := Lib.hid hl
  clear hbc hbb hbs hl hWW hbf
  go_enter Tryz.func259, Tryz.ntmps259
  go_wp2_with fail
  go_loopw [10] (fun i wr => ∃ k : Nat, k ≤ s.size ∧ i = .int .i64 k ∧ Hid (∀ j, j < s.size → wr.cell? ⟨w.heap.size, j, none⟩ = some (.int .u8 ((if j < k then lowB (s.data.toList.getD j 0) else s.data.toList.getD j 0).toNat)))
     ∧ Hid (∀ j, j < s.size → wr.frozen? ⟨w.heap.size, j, none⟩ = false) ∧ Hid (Below w.heap.size w wr)) (fun i _ => s.size - (intOf i).toNat)
  case atStart => exact ⟨0, Nat.zero_le _, rfl, Lib.hid fun j hj => by rw [if_neg (by omega)]; exact HBC.out j hj, Lib.hid HBF.out, Lib.hid HBB.out⟩
  case round =>
    obtain ⟨k, hk, rfl, HC, HF, HE⟩ := hrel
    by_cases hlt : k < s.size
    · have hc := HC.out k hlt
      rw [if_neg (by omega)] at hc
      have hf := HF.out k hlt
      generalize hx : s.data.toList.getD k 0 = x at hc
      have HX := Lib.hid hx; clear hx
      cases hu : isUp x
      · have hlo := Lib.hid (lowB_not x hu)
        have h1 : ¬ ((65 : Int) ≤ x.toNat ∧ (x.toNat : Int) ≤ 90) := by
          unfold isUp at hu
          simp [UInt8.le_iff_toNat_le] at hu
          omega
        clear hu
        by_cases h65 : (65 : Int) ≤ x.toNat
        · have h90 : ¬ (x.toNat : Int) ≤ 90 := fun h => h1 ⟨h65, h⟩
          clear h1
          go_wp2_with fail
          go_roundw
          case rel =>
            refine ⟨k + 1, by omega, by go_num, Lib.hid fun j hj => ?_, HF, HE⟩
            rw [HC.out j hj]
            by_cases hjk : j = k
            · subst hjk; rw [if_neg (by omega), if_pos (by omega), HX.out, hlo.out]
            · by_cases hj2 : j < k
              · rw [if_pos hj2, if_pos (by omega)]
              · rw [if_neg hj2, if_neg (by omega)]
          case measure => simp [intOf]; omega
        · clear h1
          go_wp2_with fail
          go_roundw
          case rel =>
            refine ⟨k + 1, by omega, by go_num, Lib.hid fun j hj => ?_, HF, HE⟩
            rw [HC.out j hj]
            by_cases hjk : j = k
            · subst hjk; rw [if_neg (by omega), if_pos (by omega), HX.out, hlo.out]
            · by_cases hj2 : j < k
              · rw [if_pos hj2, if_pos (by omega)]
              · rw [if_neg hj2, if_neg (by omega)]
          case measure => simp [intOf]; omega
      · have hlo := Lib.hid (lowB_nat x hu)
        have h65 : (65 : Int) ≤ x.toNat := by
          unfold isUp at hu; simp [UInt8.le_iff_toNat_le] at hu; omega
        have h90 : (x.toNat : Int) ≤ 90 := by
          unfold isUp at hu; simp [UInt8.le_iff_toNat_le] at hu; omega
        clear hu
        go_wp2_with fail
        have hv : (x.toNat : Int) + 97 - 65 = ((lowB x).toNat : Int) := by rw [hlo.out]; omega
        go_roundw
        case rel =>
          refine ⟨k + 1, by omega, by go_num, Lib.hid fun j hj => ?_, Lib.hid fun j hj => ?_, Lib.hid (HE.out.setCell (Nat.le_refl _) _)⟩
          · by_cases hjk : j = k
            · subst hjk
              rw [World.cell?_setCell_same _ _ _ hc, if_pos (by omega), HX.out, hv]
            · rw [World.cell?_setCell_other _ _ _ _ (fun h => hjk (by injection h with _ h2; exact h2.symm)), HC.out j hj]
              by_cases hj2 : j < k
              · rw [if_pos hj2, if_pos (by omega)]
              · rw [if_neg hj2, if_neg (by omega)]
          · simp [HF.out j hj]
        case measure => simp [intOf]; omega
    · obtain rfl : k = s.size := by omega
      have hlen : (lowL s.data.toList).length = s.size := by unfold lowL; simp
      have hback : ∀ cap, (convert 75 9 (.slice (some ⟨w.heap.size, 0, none⟩) s.size cap)).run Tryz.prog wr = .ok (.string ⟨(lowL s.data.toList).toArray⟩) wr := fun cap => by
        have := run_convert_bytes_back (P := Tryz.prog) wr 75 9 5 ⟨w.heap.size, 0, none⟩ cap (lowL s.data.toList) Tryz.underlying75 Tryz.underlying5 Tryz.underlying9 (fun j hj => by
          have hj' : j < s.size := by rw [← hlen]; exact hj
          have e : (⟨w.heap.size, 0, none⟩ : Addr).add j = ⟨w.heap.size, j, none⟩ := by
            unfold Addr.add; split
            · rename_i h; subst h; rfl
            · rw [Nat.zero_add]
          rw [e, HC.out j hj', if_pos hj']
          have hg : s.data.toList.getD j 0 = s.data.toList[j]'(by rw [HL.out]; exact hj') := by simp [List.getD, hj']
          rw [hg]
          simp [lowL])
        rw [hlen] at this
        exact this
      clear hlen
      go_wp2_with fail
      go_ret
      exact ⟨rfl, HE.out⟩
end Go.Proofs.YtjojihadnplllaaGreatDoor
