/- The reference's SameSelect and Same. -/
import Derived.Test.YtjojihadnplllaaGreatDoorCmB
import Derived.Laws.StructEq
import Derived.Deep.QuietTactic
import Derived.BigQuiet
namespace Go.Proofs.YtjojihadnplllaaGreatDoor
open Go.RowKit Go Go.Shelf Go.Proofs

/-- A slice of terms reads as a list. -/
def SelRd (w : World) (v : Value) (l : List Sel) : Prop :=
  ∃ A cap, v = .slice A l.length cap ∧ (0 < l.length → ∃ b o, A = some ⟨b, o, none⟩ ∧ ∀ j u, (selsCells l)[j]? = some u → w.cell? ⟨b, o + j, none⟩ = some u)
theorem SelRd.of_is {lo : Nat} {l : List Sel} {w : World} {sv : Value} (h : selIs lo l w sv) : SelRd w sv l := by
  rcases h with ⟨rfl, rfl⟩ | ⟨b, cap, rfl, _, ho⟩
  · exact ⟨none, 0, rfl, fun h => absurd h (by simp)⟩
  · exact ⟨some ⟨b, 0, none⟩, cap, rfl, fun _ => ⟨b, 0, rfl, ho.range⟩⟩
theorem SelRd.below {l : List Sel} {w w' : World} {v : Value} (h : SelRd w v l) (hb : Below w.heap.size w w') : SelRd w' v l := by
  obtain ⟨A, cap, rfl, h⟩ := h
  refine ⟨A, cap, rfl, fun hl => ?_⟩
  obtain ⟨b, o, rfl, hc⟩ := h hl
  refine ⟨b, o, rfl, fun j u hu => ?_⟩
  have h1 := hc j u hu
  rw [hb.cell (p := ⟨b, o + j, none⟩) (lt_of_cell h1)]; exact h1
theorem selCells_len (s : Sel) : (selCells s).length = 4 := rfl
theorem selsCells_get : ∀ (l : List Sel) (k i : Nat) (s : Sel), l[k]? = some s → i < 4 → (selsCells l)[k * 4 + i]? = (selCells s)[i]?
  | [], k, i, s, h, _ => by simp at h
  | a :: l, 0, i, s, h, hi => by
    simp at h
    subst h
    show (selCells a ++ selsCells l)[0 * 4 + i]? = _
    rw [Nat.zero_mul, Nat.zero_add, List.getElem?_append_left (by rw [selCells_len]; exact hi)]
  | a :: l, k + 1, i, s, h, hi => by
    show (selCells a ++ selsCells l)[(k + 1) * 4 + i]? = _
    rw [List.getElem?_append_right (by rw [selCells_len]; omega), selCells_len, show (k + 1) * 4 + i - 4 = k * 4 + i by omega]
    exact selsCells_get l k i s (by simpa using h) hi

def selEq (a b : Sel) : Bool := a.op == b.op && a.group == b.group && a.lo == b.lo && a.hi == b.hi
def selsEq : List Sel → List Sel → Bool
  | [], [] => true
  | a :: l, b :: r => selEq a b && selsEq l r
  | _, _ => false
theorem selEq_self (a : Sel) : selEq a a = true := by unfold selEq; simp
theorem selEq_iff {a b : Sel} : selEq a b = true ↔ a = b := by
  constructor
  · intro h
    unfold selEq at h
    simp only [Bool.and_eq_true, beq_iff_eq] at h
    obtain ⟨⟨⟨h1, h2⟩, h3⟩, h4⟩ := h
    cases a; cases b
    simp_all
  · rintro rfl; exact selEq_self a
theorem selsEq_iff : ∀ {l r : List Sel}, selsEq l r = true ↔ l = r
  | [], [] => by simp [selsEq]
  | [], _ :: _ => by simp [selsEq]
  | _ :: _, [] => by simp [selsEq]
  | a :: l, b :: r => by
    unfold selsEq
    rw [Bool.and_eq_true, selEq_iff, selsEq_iff (l := l) (r := r)]
    simp
theorem selsEq_len {l r : List Sel} (h : l.length ≠ r.length) : selsEq l r = false := by
  cases hs : selsEq l r with
  | false => rfl
  | true => exact absurd (congrArg List.length (selsEq_iff.1 hs)) h
theorem selsEq_at {l r : List Sel} {k : Nat} {a b : Sel} (ha : l[k]? = some a) (hb : r[k]? = some b) (h : selEq a b = false) : selsEq l r = false := by
  cases hs : selsEq l r with
  | false => rfl
  | true =>
    rw [selsEq_iff.1 hs, hb] at ha
    cases ha
    rw [selEq_self] at h; cases h

theorem eq68' (a0 a1 a2 a3 b0 b1 b2 b3 : Int) (w : World) : (Op.equalIn 10000 68 (.agg #[.int .i64 a0, .int .i64 a1, .int .i64 a2, .int .i64 a3]) (.agg #[.int .i64 b0, .int .i64 b1, .int .i64 b2, .int .i64 b3])).run Tryz.prog w =
    .ok (a0 == b0 && a1 == b1 && a2 == b2 && a3 == b3) w := by
  have hS : Tryz.prog.underlying 68 = some (.struct (Tryz.prog.fieldsOf 68)) := by kernel_rfl
  have hp : Tryz.prog.stoodInHeld 68 = false := by kernel_rfl
  have u3 := Tryz.underlying3
  have a3' := Tryz.isAgg3
  have z3 := Tryz.sizeOf3
  rw [show (10000 : Nat) = 9999 + 1 from rfl, run_equalIn_agg w 9999 68 _ _ hS hp]
  simp only [Program.fieldsOf, Tryz.underlying68]
  go_simp
  by_cases h1 : a0 = b0 <;> by_cases h2 : a1 = b1 <;> by_cases h3 : a2 = b2 <;> by_cases h4 : a3 = b3 <;> simp [h1, h2, h3, h4]
@[go_sem high] theorem eq68 (a0 a1 a2 a3 b0 b1 b2 b3 : Int) (w : World) : (Op.equalIn 10000 68 (.agg #[.int .i64 a0, .int .i64 a1, .int .i64 a2, .int .i64 a3]) (.agg #[.int .i64 b0, .int .i64 b1, .int .i64 b2, .int .i64 b3])).run Tryz.prog w =
    .ok (selEq ⟨a0, a1, a2, a3⟩ ⟨b0, b1, b2, b3⟩) w := eq68' a0 a1 a2 a3 b0 b1 b2 b3 w
theorem at_next {α : Type} {l r : List α} {k : Nat} (h : ∀ j, j < k → l[j]? = r[j]?) (hk : l[k]? = r[k]?) : ∀ j, j < k + 1 → l[j]? = r[j]? := fun j hj => by
  rcases Nat.lt_or_ge j k with h1 | h1
  · exact h j h1
  · obtain rfl : j = k := by omega
    exact hk

set_option maxRecDepth 100000 in
set_option maxHeartbeats 2000000 in
theorem sameSel_any {w : World} {va vb : Value} {la lb : List Sel} (ha : SelRd w va la) (hb : SelRd w vb lb) (hn : la.length ≤ 100000) :
    Calls Tryz.prog 34 #[va, vb] w fun e w' => e = .returned (.bool (selsEq la lb)) ∧ ∃ n, w' = w.drewN n := by
  obtain ⟨A, ca, rfl, ha⟩ := ha
  obtain ⟨B, cb, rfl, hb⟩ := hb
  by_cases hlen : la.length = lb.length
  · have hq : ((la.length : Int) != (lb.length : Int)) = false := by rw [hlen]; simp
    have HL := Lib.hid hlen
    have HA := Lib.hid ha
    have HB := Lib.hid hb
    clear hlen ha hb
    go_enter Tryz.func34, Tryz.ntmps34
    go_wp2_with fail
    go_loopw [5] (fun i wr => ∃ k : Nat, k ≤ la.length ∧ i = .int .i64 k ∧ Hid (∀ j, j < k → la[j]? = lb[j]?) ∧ Hid (∃ nq, wr = w.drewN nq)) (fun i _ => la.length - (intOf i).toNat)
    case atStart => exact ⟨0, Nat.zero_le _, rfl, Lib.hid (fun j hj => absurd hj (by omega)), Lib.hid ⟨0, rfl⟩⟩
    case round =>
      obtain ⟨k, hk, rfl, HE, HW⟩ := hrel
      obtain ⟨nq, rfl⟩ := HW.out
      clear HW
      by_cases hlt : k < la.length
      · obtain ⟨b1, o1, rfl, hc1⟩ := HA.out (by omega)
        obtain ⟨b2, o2, rfl, hc2⟩ := HB.out (by have := HL.out; omega)
        obtain ⟨x, hx⟩ : ∃ x, la[k]? = some x := ⟨_, List.getElem?_eq_getElem hlt⟩
        obtain ⟨y, hy⟩ : ∃ y, lb[k]? = some y := ⟨_, List.getElem?_eq_getElem (by have := HL.out; omega)⟩
        have HX := Lib.hid hx
        have HY := Lib.hid hy
        have hlt2 : k < lb.length := by have := HL.out; omega
        have gx : ∀ i u, i < 4 → (selCells x)[i]? = some u → w.cell? ⟨b1, o1 + k * 4 + i, none⟩ = some u := fun i u hi hu => by rw [Nat.add_assoc]; exact hc1 _ _ ((selsCells_get la k i x hx hi).trans hu)
        have gy : ∀ i u, i < 4 → (selCells y)[i]? = some u → w.cell? ⟨b2, o2 + k * 4 + i, none⟩ = some u := fun i u hi hu => by rw [Nat.add_assoc]; exact hc2 _ _ ((selsCells_get lb k i y hy hi).trans hu)
        have x0 := gx 0 _ (by omega) rfl
        have x1 := gx 1 _ (by omega) rfl
        have x2 := gx 2 _ (by omega) rfl
        have x3 := gx 3 _ (by omega) rfl
        have y0 := gy 0 _ (by omega) rfl
        have y1 := gy 1 _ (by omega) rfl
        have y2 := gy 2 _ (by omega) rfl
        have y3 := gy 3 _ (by omega) rfl
        simp only [Nat.add_zero] at x0 y0
        clear hx hy hc1 hc2 gx gy HA HB
        obtain ⟨xa, xb, xc, xd⟩ := x
        obtain ⟨ya, yb, yc, yd⟩ := y
        cases hs : selEq ⟨xa, xb, xc, xd⟩ ⟨ya, yb, yc, yd⟩ with
        | true =>
          go_wp2_with fail
          go_quiet (fail)
          go_wp2_with fail
          go_roundw
          case rel => exact ⟨k + 1, by omega, by go_num, Lib.hid (at_next HE.out (by rw [HX.out, HY.out, selEq_iff.1 hs])), Lib.hid ⟨_, rfl⟩⟩
          case measure => simp [intOf]; omega
        | false =>
          have HR := Lib.hid (selsEq_at HX.out HY.out hs)
          go_wp2_with fail
          go_quiet (fail)
          go_wp2_with fail
          go_ret
          exact ⟨by rw [HR.out]; rfl, _, World.drewN_drewN _ _ _⟩
      · have HR := Lib.hid (show selsEq la lb = true from selsEq_iff.2 (List.ext_getElem? fun j => by
          by_cases hj : j < k
          · exact HE.out j hj
          · rw [List.getElem?_eq_none (by omega), List.getElem?_eq_none (by have := HL.out; omega)]))
        obtain rfl : k = la.length := by omega
        go_wp2_with fail
        go_ret
        exact ⟨by rw [HR.out]; rfl, _, rfl⟩
  · have hq : ((la.length : Int) != (lb.length : Int)) = true := by rw [bne_iff_ne]; omega
    have HR := Lib.hid (selsEq_len hlen)
    clear hlen ha hb
    go_enter Tryz.func34, Tryz.ntmps34
    go_wp2_with fail
    go_ret
    exact ⟨by rw [HR.out]; rfl, 0, rfl⟩
end Go.Proofs.YtjojihadnplllaaGreatDoor
