/- The method of grammar's reader that lays the map of the verbs. -/
import Derived.Test.YtjojihadnplllaaGreatDoorCmF
namespace Go.Proofs.YtjojihadnplllaaGreatDoor
open Go.RowKit Go Go.Shelf Go.Proofs

theorem verb_0 (rb : Nat) (w : World) : (Instr.mapUpdate 153 (.map (some w.heap.size)) (.string ⟨#[99, 108, 101, 97, 114]⟩) (.func (.func 190) #[.pointer (some ⟨rb, 0, none⟩)] #[])).run Tryz.prog (w.alloc (.map #[] 0)) = .ok () (w.alloc (.map #[{ key := .string ⟨#[99, 108, 101, 97, 114]⟩, val := .func (.func 190) #[.pointer (some ⟨rb, 0, none⟩)] #[], born := 0 }] 1)) :=
  run_insert_last 153 9 151 _ _ _ _ w Tryz.underlying153 Tryz.underlying9 (by kernel_rfl)
theorem verb_1 (rb : Nat) (w : World) : (Instr.mapUpdate 153 (.map (some w.heap.size)) (.string ⟨#[114, 101, 99, 111, 114, 100]⟩) (.func (.func 191) #[.pointer (some ⟨rb, 0, none⟩)] #[])).run Tryz.prog (w.alloc (.map #[{ key := .string ⟨#[99, 108, 101, 97, 114]⟩, val := .func (.func 190) #[.pointer (some ⟨rb, 0, none⟩)] #[], born := 0 }] 1)) = .ok () (w.alloc (.map #[{ key := .string ⟨#[99, 108, 101, 97, 114]⟩, val := .func (.func 190) #[.pointer (some ⟨rb, 0, none⟩)] #[], born := 0 }, { key := .string ⟨#[114, 101, 99, 111, 114, 100]⟩, val := .func (.func 191) #[.pointer (some ⟨rb, 0, none⟩)] #[], born := 1 }] 2)) :=
  run_insert_last 153 9 151 _ _ _ _ w Tryz.underlying153 Tryz.underlying9 (by kernel_rfl)
theorem verb_2 (rb : Nat) (w : World) : (Instr.mapUpdate 153 (.map (some w.heap.size)) (.string ⟨#[117, 112, 100, 97, 116, 101]⟩) (.func (.func 192) #[.pointer (some ⟨rb, 0, none⟩)] #[])).run Tryz.prog (w.alloc (.map #[{ key := .string ⟨#[99, 108, 101, 97, 114]⟩, val := .func (.func 190) #[.pointer (some ⟨rb, 0, none⟩)] #[], born := 0 }, { key := .string ⟨#[114, 101, 99, 111, 114, 100]⟩, val := .func (.func 191) #[.pointer (some ⟨rb, 0, none⟩)] #[], born := 1 }] 2)) = .ok () (w.alloc (.map #[{ key := .string ⟨#[99, 108, 101, 97, 114]⟩, val := .func (.func 190) #[.pointer (some ⟨rb, 0, none⟩)] #[], born := 0 }, { key := .string ⟨#[114, 101, 99, 111, 114, 100]⟩, val := .func (.func 191) #[.pointer (some ⟨rb, 0, none⟩)] #[], born := 1 }, { key := .string ⟨#[117, 112, 100, 97, 116, 101]⟩, val := .func (.func 192) #[.pointer (some ⟨rb, 0, none⟩)] #[], born := 2 }] 3)) :=
  run_insert_last 153 9 151 _ _ _ _ w Tryz.underlying153 Tryz.underlying9 (by kernel_rfl)
theorem verb_3 (rb : Nat) (w : World) : (Instr.mapUpdate 153 (.map (some w.heap.size)) (.string ⟨#[100, 101, 108, 101, 116, 101]⟩) (.func (.func 193) #[.pointer (some ⟨rb, 0, none⟩)] #[])).run Tryz.prog (w.alloc (.map #[{ key := .string ⟨#[99, 108, 101, 97, 114]⟩, val := .func (.func 190) #[.pointer (some ⟨rb, 0, none⟩)] #[], born := 0 }, { key := .string ⟨#[114, 101, 99, 111, 114, 100]⟩, val := .func (.func 191) #[.pointer (some ⟨rb, 0, none⟩)] #[], born := 1 }, { key := .string ⟨#[117, 112, 100, 97, 116, 101]⟩, val := .func (.func 192) #[.pointer (some ⟨rb, 0, none⟩)] #[], born := 2 }] 3)) = .ok () (w.alloc (.map #[{ key := .string ⟨#[99, 108, 101, 97, 114]⟩, val := .func (.func 190) #[.pointer (some ⟨rb, 0, none⟩)] #[], born := 0 }, { key := .string ⟨#[114, 101, 99, 111, 114, 100]⟩, val := .func (.func 191) #[.pointer (some ⟨rb, 0, none⟩)] #[], born := 1 }, { key := .string ⟨#[117, 112, 100, 97, 116, 101]⟩, val := .func (.func 192) #[.pointer (some ⟨rb, 0, none⟩)] #[], born := 2 }, { key := .string ⟨#[100, 101, 108, 101, 116, 101]⟩, val := .func (.func 193) #[.pointer (some ⟨rb, 0, none⟩)] #[], born := 3 }] 4)) :=
  run_insert_last 153 9 151 _ _ _ _ w Tryz.underlying153 Tryz.underlying9 (by kernel_rfl)
theorem verb_4 (rb : Nat) (w : World) : (Instr.mapUpdate 153 (.map (some w.heap.size)) (.string ⟨#[112, 97, 116, 99, 104]⟩) (.func (.func 194) #[.pointer (some ⟨rb, 0, none⟩)] #[])).run Tryz.prog (w.alloc (.map #[{ key := .string ⟨#[99, 108, 101, 97, 114]⟩, val := .func (.func 190) #[.pointer (some ⟨rb, 0, none⟩)] #[], born := 0 }, { key := .string ⟨#[114, 101, 99, 111, 114, 100]⟩, val := .func (.func 191) #[.pointer (some ⟨rb, 0, none⟩)] #[], born := 1 }, { key := .string ⟨#[117, 112, 100, 97, 116, 101]⟩, val := .func (.func 192) #[.pointer (some ⟨rb, 0, none⟩)] #[], born := 2 }, { key := .string ⟨#[100, 101, 108, 101, 116, 101]⟩, val := .func (.func 193) #[.pointer (some ⟨rb, 0, none⟩)] #[], born := 3 }] 4)) = .ok () (w.alloc (.map #[{ key := .string ⟨#[99, 108, 101, 97, 114]⟩, val := .func (.func 190) #[.pointer (some ⟨rb, 0, none⟩)] #[], born := 0 }, { key := .string ⟨#[114, 101, 99, 111, 114, 100]⟩, val := .func (.func 191) #[.pointer (some ⟨rb, 0, none⟩)] #[], born := 1 }, { key := .string ⟨#[117, 112, 100, 97, 116, 101]⟩, val := .func (.func 192) #[.pointer (some ⟨rb, 0, none⟩)] #[], born := 2 }, { key := .string ⟨#[100, 101, 108, 101, 116, 101]⟩, val := .func (.func 193) #[.pointer (some ⟨rb, 0, none⟩)] #[], born := 3 }, { key := .string ⟨#[112, 97, 116, 99, 104]⟩, val := .func (.func 194) #[.pointer (some ⟨rb, 0, none⟩)] #[], born := 4 }] 5)) :=
  run_insert_last 153 9 151 _ _ _ _ w Tryz.underlying153 Tryz.underlying9 (by kernel_rfl)
theorem verb_5 (rb : Nat) (w : World) : (Instr.mapUpdate 153 (.map (some w.heap.size)) (.string ⟨#[98, 108, 97, 99, 107, 111, 117, 116]⟩) (.func (.func 195) #[.pointer (some ⟨rb, 0, none⟩)] #[])).run Tryz.prog (w.alloc (.map #[{ key := .string ⟨#[99, 108, 101, 97, 114]⟩, val := .func (.func 190) #[.pointer (some ⟨rb, 0, none⟩)] #[], born := 0 }, { key := .string ⟨#[114, 101, 99, 111, 114, 100]⟩, val := .func (.func 191) #[.pointer (some ⟨rb, 0, none⟩)] #[], born := 1 }, { key := .string ⟨#[117, 112, 100, 97, 116, 101]⟩, val := .func (.func 192) #[.pointer (some ⟨rb, 0, none⟩)] #[], born := 2 }, { key := .string ⟨#[100, 101, 108, 101, 116, 101]⟩, val := .func (.func 193) #[.pointer (some ⟨rb, 0, none⟩)] #[], born := 3 }, { key := .string ⟨#[112, 97, 116, 99, 104]⟩, val := .func (.func 194) #[.pointer (some ⟨rb, 0, none⟩)] #[], born := 4 }] 5)) = .ok () (w.alloc (.map #[{ key := .string ⟨#[99, 108, 101, 97, 114]⟩, val := .func (.func 190) #[.pointer (some ⟨rb, 0, none⟩)] #[], born := 0 }, { key := .string ⟨#[114, 101, 99, 111, 114, 100]⟩, val := .func (.func 191) #[.pointer (some ⟨rb, 0, none⟩)] #[], born := 1 }, { key := .string ⟨#[117, 112, 100, 97, 116, 101]⟩, val := .func (.func 192) #[.pointer (some ⟨rb, 0, none⟩)] #[], born := 2 }, { key := .string ⟨#[100, 101, 108, 101, 116, 101]⟩, val := .func (.func 193) #[.pointer (some ⟨rb, 0, none⟩)] #[], born := 3 }, { key := .string ⟨#[112, 97, 116, 99, 104]⟩, val := .func (.func 194) #[.pointer (some ⟨rb, 0, none⟩)] #[], born := 4 }, { key := .string ⟨#[98, 108, 97, 99, 107, 111, 117, 116]⟩, val := .func (.func 195) #[.pointer (some ⟨rb, 0, none⟩)] #[], born := 5 }] 6)) :=
  run_insert_last 153 9 151 _ _ _ _ w Tryz.underlying153 Tryz.underlying9 (by kernel_rfl)
def kv6 (rb : Nat) : List (ByteArray × Value) := [(⟨#[99, 108, 101, 97, 114]⟩, .func (.func 190) #[.pointer (some ⟨rb, 0, none⟩)] #[]), (⟨#[114, 101, 99, 111, 114, 100]⟩, .func (.func 191) #[.pointer (some ⟨rb, 0, none⟩)] #[]), (⟨#[117, 112, 100, 97, 116, 101]⟩, .func (.func 192) #[.pointer (some ⟨rb, 0, none⟩)] #[]), (⟨#[100, 101, 108, 101, 116, 101]⟩, .func (.func 193) #[.pointer (some ⟨rb, 0, none⟩)] #[]), (⟨#[112, 97, 116, 99, 104]⟩, .func (.func 194) #[.pointer (some ⟨rb, 0, none⟩)] #[]), (⟨#[98, 108, 97, 99, 107, 111, 117, 116]⟩, .func (.func 195) #[.pointer (some ⟨rb, 0, none⟩)] #[])]
def vw0 : List ByteArray := [⟨#[103, 111]⟩, ⟨#[98, 97, 99, 107]⟩, ⟨#[112, 97, 117, 115, 101]⟩, ⟨#[114, 101, 115, 117, 109, 101]⟩, ⟨#[114, 101, 118, 101, 114, 115, 101]⟩, ⟨#[103, 111, 116, 111]⟩, ⟨#[114, 97, 116, 101]⟩, ⟨#[114, 101, 108, 101, 97, 115, 101]⟩]
def kvm0 (rb : Nat) : List (ByteArray × Value) := withAll (kv6 rb) (.func (.func 197) #[.pointer (some ⟨rb, 0, none⟩)] #[]) vw0
theorem vnew0 (rb : Nat) : ∀ k, k < vw0.length → findKV (vw0.getD k ⟨#[]⟩) (withAll (kv6 rb) (.func (.func 197) #[.pointer (some ⟨rb, 0, none⟩)] #[]) (vw0.take k)) 0 = none := by
  intro k hk
  have : k < 8 := hk
  match k, this with
  | 0, _ => rfl
  | 1, _ => rfl
  | 2, _ => rfl
  | 3, _ => rfl
  | 4, _ => rfl
  | 5, _ => rfl
  | 6, _ => rfl
  | 7, _ => rfl
def vw1 : List ByteArray := [⟨#[108, 105, 115, 116]⟩, ⟨#[115, 117, 98]⟩, ⟨#[109, 97, 115, 116, 101, 114]⟩]
def kvm1 (rb : Nat) : List (ByteArray × Value) := withAll (kvm0 rb) (.func (.func 198) #[.pointer (some ⟨rb, 0, none⟩)] #[]) vw1
theorem vnew1 (rb : Nat) : ∀ k, k < vw1.length → findKV (vw1.getD k ⟨#[]⟩) (withAll (kvm0 rb) (.func (.func 198) #[.pointer (some ⟨rb, 0, none⟩)] #[]) (vw1.take k)) 0 = none := by
  intro k hk
  have : k < 3 := hk
  match k, this with
  | 0, _ => rfl
  | 1, _ => rfl
  | 2, _ => rfl
def vw2 : List ByteArray := [⟨#[101, 102, 102, 101, 99, 116]⟩, ⟨#[115, 116, 111, 112]⟩]
def kvm2 (rb : Nat) : List (ByteArray × Value) := withAll (kvm1 rb) (.func (.func 199) #[.pointer (some ⟨rb, 0, none⟩)] #[]) vw2
theorem vnew2 (rb : Nat) : ∀ k, k < vw2.length → findKV (vw2.getD k ⟨#[]⟩) (withAll (kvm1 rb) (.func (.func 199) #[.pointer (some ⟨rb, 0, none⟩)] #[]) (vw2.take k)) 0 = none := by
  intro k hk
  have : k < 2 := hk
  match k, this with
  | 0, _ => rfl
  | 1, _ => rfl
def vw3 : List ByteArray := [⟨#[117, 110, 100, 111]⟩, ⟨#[114, 101, 100, 111]⟩]
def kvm3 (rb : Nat) : List (ByteArray × Value) := withAll (kvm2 rb) (.func (.func 200) #[.pointer (some ⟨rb, 0, none⟩)] #[]) vw3
theorem vnew3 (rb : Nat) : ∀ k, k < vw3.length → findKV (vw3.getD k ⟨#[]⟩) (withAll (kvm2 rb) (.func (.func 200) #[.pointer (some ⟨rb, 0, none⟩)] #[]) (vw3.take k)) 0 = none := by
  intro k hk
  have : k < 2 := hk
  match k, this with
  | 0, _ => rfl
  | 1, _ => rfl

/-- The verbs' map so far, and the variable that holds it. -/
structure Ver (w w' : World) (kvs : List (ByteArray × Value)) : Prop where
  map : MapIs w' w.heap.size kvs
  cell : w'.cell? ⟨w.heap.size + 1, 0, none⟩ = some (.map (some w.heap.size))
  below : Below w.heap.size w w'
theorem Ver.same {w w' : World} {kvs : List (ByteArray × Value)} (h : Ver w w' kvs) {fn : Fn} {fa fc : Array Value} (ws : List ByteArray) {n b : Nat} (hn : ws.length = n) (hb : w'.heap.size = b) (hl : ws.length < 1000)
    (hnew : ∀ k, k < ws.length → findKV (ws.getD k ⟨#[]⟩) (withAll kvs (.func fn fa fc) (ws.take k)) 0 = none) {R : Ending → World → Prop}
    (hok : ∀ w'', Hid (Ver w w'' (withAll kvs (.func fn fa fc) ws)) → R (.returned (.tuple #[])) w'') :
    Calls Tryz.prog 196 #[.func fn fa fc, .slice (some ⟨b, 0, none⟩) n n, .pointer (some ⟨w.heap.size + 1, 0, none⟩)] (w'.alloc (.cells (ws.map Value.string).toArray 9)) R := by
  subst hn hb
  have hMs := lt_of_cell h.cell
  have hbl : Below w'.heap.size w' (w'.alloc (.cells (ws.map Value.string).toArray 9)) := (Below.refl _ _).alloc (Nat.le_refl _) _
  have h1 := h.map.block (hbl.block _ h.map.lt)
  have h2 := (hbl.cell (p := ⟨w.heap.size + 1, 0, none⟩) hMs).trans h.cell
  refine (same_any h1 h2 (by omega) (strRow_alloc w' ws) (by simp) (by have := h.map.lt; omega) hl hnew).mono ?_
  rintro e w'' ⟨rfl, h3, h4⟩
  refine hok w'' (Lib.hid ⟨h3, ?_, ?_⟩)
  · rw [h4.cell (p := ⟨w.heap.size + 1, 0, none⟩) (by simp; omega) (by show w.heap.size + 1 ≠ w.heap.size; omega)]; exact h2
  · exact (h.below.trans (hbl.mono h.below.size)).trans (h4.below (Nat.le_refl _) (by have := h.below.size; simp; omega))

set_option maxRecDepth 100000 in
set_option maxHeartbeats 4000000 in
theorem verbs_any {rb : Nat} {w : World} :
    Calls Tryz.prog 96 #[.pointer (some ⟨rb, 0, none⟩)] w fun e w' => e = .returned (.map (some w.heap.size)) ∧ MapIs w' w.heap.size (kvm3 rb) ∧ Below w.heap.size w w' := by
  have hmm := @run_makeMap Tryz.prog
  have hmf : ∀ (fn : Fn) (first cap : Array Value) (w : World), (Instr.makeFunc fn first cap).run Tryz.prog w = .ok (.func fn first cap) w := fun _ _ _ _ => rfl
  have hv0 := verb_0 rb
  have hv1 := verb_1 rb
  have hv2 := verb_2 rb
  have hv3 := verb_3 rb
  have hv4 := verb_4 rb
  have hv5 := verb_5 rb
  go_enter Tryz.func96, Tryz.ntmps96
  go_wp2_with fail
  have H0 : Ver w ((w.alloc (.map (entriesFrom 0 (kv6 rb)).toArray 6)).alloc (.cells #[.map (some w.heap.size)] 153)) (kv6 rb) := by
    refine ⟨?_, ?_, ((Below.refl _ _).alloc (Nat.le_refl _) _).alloc (by simp) _⟩
    · exact (((Below.refl (w.alloc (.map (entriesFrom 0 (kv6 rb)).toArray 6)).heap.size _).alloc (Nat.le_refl _) _).block w.heap.size (by simp)).trans (heap_last w _)
    · rw [show w.heap.size + 1 = (w.alloc (.map (entriesFrom 0 (kv6 rb)).toArray 6)).heap.size by simp, World.cell?_alloc_new]; rfl
  clear hmm hv0 hv1 hv2 hv3 hv4 hv5
  refine H0.same vw0 rfl (by simp) (by decide) (vnew0 rb) ?_
  intro w1 H1
  clear H0
  go_wp2_with fail
  refine H1.out.same vw1 rfl rfl (by decide) (vnew1 rb) ?_
  intro w2 H2
  go_wp2_with fail
  refine H2.out.same vw2 rfl rfl (by decide) (vnew2 rb) ?_
  intro w3 H3
  go_wp2_with fail
  refine H3.out.same vw3 rfl rfl (by decide) (vnew3 rb) ?_
  intro w4 H4
  have hcl := H4.out.cell
  go_wp2_with fail
  go_ret
  exact ⟨rfl, H4.out.map, H4.out.below⟩
end Go.Proofs.YtjojihadnplllaaGreatDoor
