/- Maps from texts, as lists; the method of grammar's reader that lays the verbs. -/
import Derived.Test.YtjojihadnplllaaGreatDoorCmE
namespace Go.Proofs.YtjojihadnplllaaGreatDoor
open Go.RowKit Go Go.Shelf Go.Proofs

def entriesFrom : Nat → List (ByteArray × Value) → List MapEntry
  | _, [] => []
  | n, (k, v) :: r => { key := .string k, val := v, born := n } :: entriesFrom (n + 1) r
def findKV (s : ByteArray) : List (ByteArray × Value) → Nat → Option (Nat × Value)
  | [], _ => none
  | (k, v) :: r, i => if s = k then some (i, v) else findKV s r (i + 1)
theorem findNow_entries (s : ByteArray) : ∀ (kvs : List (ByteArray × Value)) (n i : Nat), Instr.findNow .string (.string s) (entriesFrom n kvs) i = some (findKV s kvs i)
  | [], _, _ => rfl
  | (k, v) :: r, n, i => by
    have hs : Instr.sameNow .string (.string s) (.string k) = some (s == k) := rfl
    unfold entriesFrom findKV Instr.findNow
    rw [hs]
    by_cases h : s = k
    · subst h
      rw [(MapKept.bytes_beq s s).2 rfl, if_pos rfl]
    · rw [ba_ne h, if_neg h]
      exact findNow_entries s r (n + 1) (i + 1)
theorem entriesFrom_snoc (s : ByteArray) (v : Value) : ∀ (kvs : List (ByteArray × Value)) (n : Nat), entriesFrom n (kvs ++ [(s, v)]) = entriesFrom n kvs ++ [{ key := .string s, val := v, born := n + kvs.length }]
  | [], _ => rfl
  | (k, u) :: r, n => by
    show _ :: entriesFrom (n + 1) (r ++ [(s, v)]) = _ :: (entriesFrom (n + 1) r ++ _)
    rw [entriesFrom_snoc s v r (n + 1), List.length_cons, show n + 1 + r.length = n + (r.length + 1) by omega]
/-- The map in block m has these entries, in the order in which they came. -/
def MapIs (w : World) (m : Nat) (kvs : List (ByteArray × Value)) : Prop := w.heap[m]? = some (.map (entriesFrom 0 kvs).toArray kvs.length)
def putObj (w : World) (m : Nat) (o : Obj) : World := { w with heap := w.heap.setIfInBounds m o }
theorem putObj_ext {w : World} {m : Nat} (o : Obj) : Ext m w (putObj w m o) :=
  ⟨rfl, rfl, rfl, by simp [putObj], fun k hk hne => by simp only [putObj]; rw [Array.getElem?_setIfInBounds_ne (fun e => hne e.symm)]⟩
theorem run_put {w : World} {m : Nat} {kvs : List (ByteArray × Value)} (h : MapIs w m kvs) (s : ByteArray) (v : Value) (hs : findKV s kvs 0 = none) :
    (Instr.mapUpdate 153 (.map (some m)) (.string s) v).run Tryz.prog w = .ok () (putObj w m (.map (entriesFrom 0 (kvs ++ [(s, v)])).toArray (kvs.length + 1))) := by
  have hc : (Instr.checkKey false 10000 9 (.string s)).run Tryz.prog w = .ok () w := MapKept.run_checkKey (k := .string s) Tryz.underlying9 (by simp [MapKept.IsKey]) false 9999
  have hf : Instr.findNow .string (.string s) (entriesFrom 0 kvs).toArray.toList 0 = some none := by rw [← hs]; exact findNow_entries s kvs 0 0
  rw [entriesFrom_snoc]
  simp [Instr.mapUpdate, run_underlying Tryz.underlying153, MapKept.run_getObj_map h, hc, MapKept.run_findKey Tryz.underlying9 hf, MapKept.run_setObj_map _ h, Result.andThen, putObj]
theorem putObj_is {w : World} {m : Nat} {kvs : List (ByteArray × Value)} (h : MapIs w m kvs) (s : ByteArray) (v : Value) : MapIs (putObj w m (.map (entriesFrom 0 (kvs ++ [(s, v)])).toArray (kvs.length + 1))) m (kvs ++ [(s, v)]) := by
  unfold MapIs putObj
  rw [(MapKept.heap_set h).1, List.length_append]; rfl
theorem MapIs.lt {w : World} {m : Nat} {kvs : List (ByteArray × Value)} (h : MapIs w m kvs) : m < w.heap.size := by
  rcases Nat.lt_or_ge m w.heap.size with h1 | h1
  · exact h1
  · unfold MapIs at h; rw [Array.getElem?_eq_none h1] at h; cases h
theorem MapIs.block {w w' : World} {m : Nat} {kvs : List (ByteArray × Value)} (h : MapIs w m kvs) (hb : w'.heap[m]? = w.heap[m]?) : MapIs w' m kvs := hb.trans h

def withAll (kvs : List (ByteArray × Value)) (f : Value) (ws : List ByteArray) : List (ByteArray × Value) := kvs ++ ws.map fun x => (x, f)

set_option maxRecDepth 100000 in
set_option maxHeartbeats 4000000 in
theorem same_any {m M b c : Nat} {kvs : List (ByteArray × Value)} {ws : List ByteArray} {fn : Fn} {fa fb : Array Value} {w : World} (h : MapIs w m kvs) (hM : w.cell? ⟨M, 0, none⟩ = some (.map (some m))) (hMm : M ≠ m) (hb : strRow w b ws) (hbl : b < w.heap.size) (hbm : b ≠ m)
    (hn : ws.length < 1000) (hnew : ∀ k, k < ws.length → findKV (ws.getD k ⟨#[]⟩) (withAll kvs (.func fn fa fb) (ws.take k)) 0 = none) :
    Calls Tryz.prog 196 #[.func fn fa fb, .slice (some ⟨b, 0, none⟩) ws.length c, .pointer (some ⟨M, 0, none⟩)] w fun e w' => e = .returned (.tuple #[]) ∧ MapIs w' m (withAll kvs (.func fn fa fb) ws) ∧ Ext m w w' := by
  have H := Lib.hid h; clear h
  have HB := Lib.hid hb; clear hb
  have HN := Lib.hid hnew; clear hnew
  have hMs := lt_of_cell hM
  have HM := Lib.hid hM; clear hM
  go_enter Tryz.func196, Tryz.ntmps196
  go_wp2_with fail
  go_loopw [9] (fun i wr => ∃ k : Nat, k ≤ ws.length ∧ i = .int .i64 k ∧ Hid (MapIs wr m (withAll kvs (.func fn fa fb) (ws.take k))) ∧ Hid (Ext m w wr)) (fun i _ => ws.length - (intOf i).toNat)
  case atStart => exact ⟨0, Nat.zero_le _, rfl, by rw [List.take_zero]; exact Lib.hid (by unfold withAll; simpa using H.out), Lib.hid (Ext.refl _ _)⟩
  case round =>
    obtain ⟨k, hk, rfl, HI, HE⟩ := hrel
    by_cases hlt : k < ws.length
    · have hcell : wr.cell? ⟨b, k, none⟩ = some (.string (ws.getD k ⟨#[]⟩)) := by rw [HE.out.cell (p := ⟨b, k, none⟩) hbl hbm]; exact HB.out k hlt
      have hmc : wr.cell? ⟨M, 0, none⟩ = some (.map (some m)) := by rw [HE.out.cell (p := ⟨M, 0, none⟩) hMs hMm]; exact HM.out
      have hput := run_put HI.out (ws.getD k ⟨#[]⟩) (.func fn fa fb) (HN.out k hlt)
      have hnext := putObj_is HI.out (ws.getD k ⟨#[]⟩) (.func fn fa fb)
      have hext : Ext m wr (putObj wr m _) := putObj_ext (.map (entriesFrom 0 (withAll kvs (.func fn fa fb) (ws.take k) ++ [(ws.getD k ⟨#[]⟩, .func fn fa fb)])).toArray ((withAll kvs (.func fn fa fb) (ws.take k)).length + 1))
      have htake : withAll kvs (.func fn fa fb) (ws.take k) ++ [(ws.getD k ⟨#[]⟩, .func fn fa fb)] = withAll kvs (.func fn fa fb) (ws.take (k + 1)) := by
        unfold withAll
        rw [List.append_assoc, List.take_add_one, List.map_append]
        simp [List.getD, List.getElem?_eq_getElem hlt]
      rw [htake] at hnext hput hext
      generalize putObj wr m _ = w1 at *
      generalize ws.getD k ⟨#[]⟩ = s at *
      have HI2 := Lib.hid hnext
      have HE2 := Lib.hid (HE.out.trans hext)
      clear hnext hext htake HI HE
      go_wp2_with fail
      go_roundw
      case rel => exact ⟨k + 1, by omega, by go_num, HI2, HE2⟩
      case measure => simp [intOf]; omega
    · obtain rfl : k = ws.length := by omega
      rw [List.take_length] at HI
      go_wp2_with fail
      go_end0
      exact ⟨rfl, HI.out, HE.out⟩
end Go.Proofs.YtjojihadnplllaaGreatDoor
