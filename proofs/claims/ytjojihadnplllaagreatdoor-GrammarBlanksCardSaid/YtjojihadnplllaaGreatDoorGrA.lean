/- Maps of the call's own that are laid as literals; and grammar's Attr: the attribute of a word. -/
import Derived.Test.YtjojihadnplllaaGreatDoorLxE
import Derived.MapKept
namespace Go.Proofs.YtjojihadnplllaaGreatDoor
open Go.RowKit Go Go.Shelf Go.Proofs

theorem ba_ne {a b : ByteArray} (h : a ≠ b) : (a == b) = false := by
  rcases a with ⟨a⟩
  rcases b with ⟨b⟩
  have h2 : a ≠ b := fun e => h (by rw [e])
  show (a == b) = false
  simpa using h2
/-- A new entry of a map that was laid last. -/
theorem run_insert_last (ty kt et : TypeId) (es : Array MapEntry) (c : Nat) (s : ByteArray) (val : Value) (w : World) (hm : Tryz.prog.underlying ty = some (.map kt et)) (hk : Tryz.prog.underlying kt = some .string)
    (hf : Instr.findNow .string (.string s) es.toList 0 = some none) :
    (Instr.mapUpdate ty (.map (some w.heap.size)) (.string s) val).run Tryz.prog (w.alloc (.map es c)) = .ok () (w.alloc (.map (es.push { key := .string s, val := val, born := c }) (c + 1))) := by
  have hb : (w.alloc (.map es c)).heap[w.heap.size]? = some (.map es c) := by show (w.heap.push _)[w.heap.size]? = _; simp
  have hc : (Instr.checkKey false 10000 kt (.string s)).run Tryz.prog (w.alloc (.map es c)) = .ok () (w.alloc (.map es c)) := MapKept.run_checkKey (k := .string s) hk (by simp [MapKept.IsKey]) false 9999
  have hset : ∀ o : Obj, (w.heap.push (.map es c)).setIfInBounds w.heap.size o = w.heap.push o := fun o => by
    apply Array.ext_getElem?
    intro i
    by_cases hi : i = w.heap.size
    · subst hi; simp
    · rw [Array.getElem?_setIfInBounds_ne (fun h => hi h.symm), Array.getElem?_push, Array.getElem?_push, if_neg hi, if_neg hi]
  simp [Instr.mapUpdate, run_underlying hm, MapKept.run_getObj_map hb, hc, MapKept.run_findKey hk hf, MapKept.run_setObj_map _ hb, Result.andThen]
  show ({ w with heap := (w.heap.push (.map es c)).setIfInBounds w.heap.size _ } : World) = { w with heap := w.heap.push _ }
  rw [hset]

/-- A look-up that finds. -/
theorem run_lookup_hit (ty kt et : TypeId) (r : Nat) (es : Array MapEntry) (c : Nat) (s : ByteArray) (i : Nat) (val : Value) (ok : Bool) (w : World) (hm : Tryz.prog.underlying ty = some (.map kt et)) (hk : Tryz.prog.underlying kt = some .string)
    (hb : w.heap[r]? = some (.map es c)) (hf : Instr.findNow .string (.string s) es.toList 0 = some (some (i, val))) :
    (Instr.lookup ty (.map (some r)) (.string s) ok).run Tryz.prog w = .ok (if ok then .tuple #[val, .bool true] else val) w := by
  have hc : (Instr.checkKey es.isEmpty 10000 kt (.string s)).run Tryz.prog w = .ok () w := MapKept.run_checkKey (k := .string s) hk (by simp [MapKept.IsKey]) _ 9999
  simp [Instr.lookup, run_underlying hm, MapKept.run_getObj_map hb, hc, MapKept.run_findKey hk hf, Result.andThen]
theorem run_lookup_miss (ty kt et : TypeId) (r : Nat) (es : Array MapEntry) (c : Nat) (s : ByteArray) (z : Value) (ok : Bool) (w : World) (hm : Tryz.prog.underlying ty = some (.map kt et)) (hk : Tryz.prog.underlying kt = some .string)
    (hb : w.heap[r]? = some (.map es c)) (hz : (zeroValue et).run Tryz.prog w = .ok z w) (hf : Instr.findNow .string (.string s) es.toList 0 = some none) :
    (Instr.lookup ty (.map (some r)) (.string s) ok).run Tryz.prog w = .ok (if ok then .tuple #[z, .bool false] else z) w := by
  have hc : (Instr.checkKey es.isEmpty 10000 kt (.string s)).run Tryz.prog w = .ok () w := MapKept.run_checkKey (k := .string s) hk (by simp [MapKept.IsKey]) _ 9999
  simp [Instr.lookup, run_underlying hm, MapKept.run_getObj_map hb, hc, MapKept.run_findKey hk hf, hz, Result.andThen]

/-- The words of the attributes, in their order. -/
def attrText : List UInt8 := [105, 110, 116, 101, 110, 115, 105, 116, 121, 32, 112, 97, 110, 32, 116, 105, 108, 116, 32, 114, 101, 100, 32, 103, 114, 101, 101, 110, 32, 98, 108, 117, 101, 32, 119, 104, 105, 116, 101, 32, 97, 109, 98, 101, 114, 32, 99, 121, 97, 110, 32, 109, 97, 103, 101, 110, 116, 97, 32, 121, 101, 108, 108, 111, 119, 32, 103, 111, 98, 111, 32, 115, 104, 117, 116, 116, 101, 114, 32, 122, 111, 111, 109, 32, 102, 111, 99, 117, 115]
def attrWords : List ByteArray := (Lib.fields attrText).map fun l => ⟨l.toArray⟩
theorem attrWords_len : attrWords.length = 15 := by decide +kernel
theorem attrText_ascii : ∀ (j : Nat) (b : UInt8), attrText[j]? = some b → b.toNat < 128 := ascii_of_all (by decide +kernel)

theorem fields_attr (w : World) (hL : Laid w) :
    Calls Tryz.prog 74 #[.string ⟨#[105, 110, 116, 101, 110, 115, 105, 116, 121, 32, 112, 97, 110, 32, 116, 105, 108, 116, 32, 114, 101, 100, 32, 103, 114, 101, 101, 110, 32, 98, 108, 117, 101, 32, 119, 104, 105, 116, 101, 32, 97, 109, 98, 101, 114, 32, 99, 121, 97, 110, 32, 109, 97, 103, 101, 110, 116, 97, 32, 121, 101, 108, 108, 111, 119, 32, 103, 111, 98, 111, 32, 115, 104, 117, 116, 116, 101, 114, 32, 122, 111, 111, 109, 32, 102, 111, 99, 117, 115]⟩] w fun e w' =>
      e = .returned (.slice (some ⟨w.heap.size, 0, none⟩) 15 15) ∧ w.heap.size < w'.heap.size ∧ (∀ j, j < attrWords.length → w'.cell? ⟨w.heap.size, 0 + j, none⟩ = some (.string (attrWords.getD j ByteArray.empty))) ∧ Below w.heap.size w w' := by
  refine (Tryz.strings_Fields_laid ⟨attrText.toArray⟩ w (by decide +kernel) attrText_ascii hL.space).mono fun e w' ⟨he, hw⟩ => ?_
  subst hw
  have hl : (Lib.fields attrText).length = 15 := by decide +kernel
  refine ⟨?_, by simp, fun j hj => ?_, (Below.refl _ _).alloc (Nat.le_refl _) _⟩
  · rw [he]
    show Ending.returned (.slice _ (Lib.fields attrText).length (Lib.fields attrText).length) = _
    rw [hl]
  · have : (w.alloc (Obj.cells (List.map (fun l => Value.string { data := l.toArray }) (Lib.fields attrText)).toArray 9)).cell? ⟨w.heap.size, 0 + j, none⟩ = ((Lib.fields attrText).map (fun l => Value.string { data := l.toArray }))[j]? := by
      rw [Nat.zero_add]
      unfold World.cell?
      have : (w.alloc (Obj.cells (List.map (fun l => Value.string { data := l.toArray }) (Lib.fields attrText)).toArray 9)).heap[w.heap.size]? = some (Obj.cells (List.map (fun l => Value.string { data := l.toArray }) (Lib.fields attrText)).toArray 9) := by
        show (w.heap.push _)[w.heap.size]? = _; simp
      rw [show (⟨w.heap.size, j, none⟩ : Addr).block = w.heap.size from rfl, this]
      simp
    refine this.trans ?_
    have hj' : j < (Lib.fields attrText).length := by rw [hl]; rw [attrWords_len] at hj; exact hj
    rw [List.getElem?_map, List.getElem?_eq_getElem hj']
    unfold attrWords
    simp [List.getD, hj']

def wPosition : ByteArray := ⟨#[112, 111, 115, 105, 116, 105, 111, 110]⟩
def wColour : ByteArray := ⟨#[99, 111, 108, 111, 117, 114]⟩
def wBeam : ByteArray := ⟨#[98, 101, 97, 109]⟩
def classMap : Array MapEntry := #[⟨.string ⟨#[112, 111, 115, 105, 116, 105, 111, 110]⟩, .int .i64 1, 0⟩, ⟨.string ⟨#[99, 111, 108, 111, 117, 114]⟩, .int .i64 2, 1⟩, ⟨.string ⟨#[98, 101, 97, 109]⟩, .int .i64 3, 2⟩]
theorem class_1 (w : World) : (Instr.mapUpdate 126 (.map (some w.heap.size)) (.string ⟨#[112, 111, 115, 105, 116, 105, 111, 110]⟩) (.int .i64 1)).run Tryz.prog (w.alloc (.map #[] 0)) = .ok () (w.alloc (.map #[⟨.string ⟨#[112, 111, 115, 105, 116, 105, 111, 110]⟩, .int .i64 1, 0⟩] 1)) :=
  run_insert_last 126 9 3 _ _ _ _ w Tryz.underlying126 Tryz.underlying9 (by kernel_rfl)
theorem class_2 (w : World) : (Instr.mapUpdate 126 (.map (some w.heap.size)) (.string ⟨#[99, 111, 108, 111, 117, 114]⟩) (.int .i64 2)).run Tryz.prog (w.alloc (.map #[⟨.string ⟨#[112, 111, 115, 105, 116, 105, 111, 110]⟩, .int .i64 1, 0⟩] 1)) = .ok () (w.alloc (.map #[⟨.string ⟨#[112, 111, 115, 105, 116, 105, 111, 110]⟩, .int .i64 1, 0⟩, ⟨.string ⟨#[99, 111, 108, 111, 117, 114]⟩, .int .i64 2, 1⟩] 2)) :=
  run_insert_last 126 9 3 _ _ _ _ w Tryz.underlying126 Tryz.underlying9 (by kernel_rfl)
theorem class_3 (w : World) : (Instr.mapUpdate 126 (.map (some w.heap.size)) (.string ⟨#[98, 101, 97, 109]⟩) (.int .i64 3)).run Tryz.prog (w.alloc (.map #[⟨.string ⟨#[112, 111, 115, 105, 116, 105, 111, 110]⟩, .int .i64 1, 0⟩, ⟨.string ⟨#[99, 111, 108, 111, 117, 114]⟩, .int .i64 2, 1⟩] 2)) = .ok () (w.alloc (.map classMap 3)) :=
  run_insert_last 126 9 3 _ _ _ _ w Tryz.underlying126 Tryz.underlying9 (by kernel_rfl)
theorem heap_last (w : World) (o : Obj) : (w.alloc o).heap[w.heap.size]? = some o := by show (w.heap.push _)[w.heap.size]? = _; simp

def classWords : List ByteArray := [⟨#[112, 111, 115, 105, 116, 105, 111, 110]⟩, ⟨#[99, 111, 108, 111, 117, 114]⟩, ⟨#[98, 101, 97, 109]⟩]
/-- Attr: the attribute, or 15 and its class, and 0; or 0 and the error. -/
def attrL (s : ByteArray) : Int × Int :=
  if s.toList = [] ∨ 0 ≤ Lib.indexByte s.data.toList 32 then (0, 8)
  else if 0 ≤ Lib.idxOfS attrWords s then (Lib.idxOfS attrWords s, 0)
  else if s = ⟨#[112, 111, 115, 105, 116, 105, 111, 110]⟩ then (16, 0)
  else if s = ⟨#[99, 111, 108, 111, 117, 114]⟩ then (17, 0)
  else if s = ⟨#[98, 101, 97, 109]⟩ then (18, 0)
  else (0, 8)

set_option maxRecDepth 100000 in
set_option maxHeartbeats 4000000 in
theorem attr_any (s : ByteArray) (w : World) (hL : Laid w) :
    Calls Tryz.prog 30 #[.string s] w fun e w' => e = .returned (.tuple #[.int .i64 (attrL s).1, .int .i64 (attrL s).2]) ∧ Below w.heap.size w w' := by
  have hmm := @run_makeMap Tryz.prog
  have hm1 := class_1
  have hm2 := class_2
  have hm3 := class_3
  have HL := Lib.hid hL; clear hL
  by_cases h0 : s.toList = []
  · have HZ := Lib.hid (show attrL s = (0, 8) by unfold attrL; rw [if_pos (Or.inl h0)])
    have h0' : s.toList.isEmpty = true := by rw [h0]; rfl
    clear h0
    go_enter Tryz.func30, Tryz.ntmps30
    go_wp2_with fail
    go_ret2
    rw [HZ.out]
    exact ⟨rfl, Below.refl _ _⟩
  · have h0' : s.toList.isEmpty = false := by
      cases h : s.toList.isEmpty
      · rfl
      · exact absurd (List.isEmpty_iff.1 h) h0
    by_cases hc : 0 ≤ Lib.indexByte s.data.toList 32
    · have HZ := Lib.hid (show attrL s = (0, 8) by unfold attrL; rw [if_pos (Or.inr hc)])
      have hd : decide (0 ≤ Lib.indexByte s.data.toList 32) = true := by simpa using hc
      have HD := Lib.hid hd
      clear h0 hc hd
      go_enter Tryz.func30, Tryz.ntmps30
      go_wp2_with fail
      refine (Tryz.strings_Contains_one s 32 _).mono ?_
      rintro e w1 ⟨rfl, rfl⟩
      rw [HD.out]
      go_wp2_with fail
      go_ret2
      rw [HZ.out]
      exact ⟨rfl, Below.refl _ _⟩
    · have HZ := Lib.hid (show attrL s = if 0 ≤ Lib.idxOfS attrWords s then (Lib.idxOfS attrWords s, 0)
          else if s = ⟨#[112, 111, 115, 105, 116, 105, 111, 110]⟩ then (16, 0)
          else if s = ⟨#[99, 111, 108, 111, 117, 114]⟩ then (17, 0)
          else if s = ⟨#[98, 101, 97, 109]⟩ then (18, 0)
          else (0, 8) by unfold attrL; rw [if_neg (by rintro (h | h); exact h0 h; exact hc h)])
      have hd : decide (0 ≤ Lib.indexByte s.data.toList 32) = false := by simpa using hc
      have HD := Lib.hid hd
      clear h0 hc hd
      go_enter Tryz.func30, Tryz.ntmps30
      go_wp2_with fail
      refine (Tryz.strings_Contains_one s 32 _).mono ?_
      rintro e w1 ⟨rfl, rfl⟩
      rw [HD.out]
      go_wp2_with fail
      refine (fields_attr _ HL.out).mono ?_
      rintro e w2 ⟨rfl, hs2, hc2, hb2⟩
      have HC2 := Lib.hid hc2
      have HB2 := Lib.hid hb2
      clear hc2 hb2
      go_wp2_with fail
      refine (Tryz.slices_Index_string _ 0 15 15 attrWords s _ (by rw [attrWords_len]; omega) (by omega) HC2.out).mono ?_
      rintro e w3 ⟨rfl, rfl⟩
      rw [List.take_of_length_le (by rw [attrWords_len]; omega)]
      generalize Lib.idxOfS attrWords s = i at *
      by_cases hi : 0 ≤ i
      · have HR := Lib.hid (HZ.out.trans (if_pos hi))
        go_wp2_with fail
        go_ret2
        rw [HR.out]
        exact ⟨rfl, HB2.out⟩
      · have HR := Lib.hid (HZ.out.trans (if_neg hi))
        by_cases e1 : s = ⟨#[112, 111, 115, 105, 116, 105, 111, 110]⟩
        · have HR2 := Lib.hid (HR.out.trans (if_pos e1))
          have hlk : ∀ w : World, (Instr.lookup 126 (.map (some w.heap.size)) (.string s) true).run Tryz.prog (w.alloc (.map classMap 3)) = .ok (.tuple #[.int .i64 1, .bool true]) (w.alloc (.map classMap 3)) := fun w =>
            run_lookup_hit 126 9 3 _ _ _ _ 0 _ true _ Tryz.underlying126 Tryz.underlying9 (heap_last w _) (by rw [e1]; kernel_rfl)
          clear e1
          go_wp2_with fail
          go_ret2
          rw [HR2.out]
          exact ⟨rfl, HB2.out.alloc HB2.out.size _⟩
        · by_cases e2 : s = ⟨#[99, 111, 108, 111, 117, 114]⟩
          · have HR2 := Lib.hid (HR.out.trans ((if_neg e1).trans (if_pos e2)))
            have hlk : ∀ w : World, (Instr.lookup 126 (.map (some w.heap.size)) (.string s) true).run Tryz.prog (w.alloc (.map classMap 3)) = .ok (.tuple #[.int .i64 2, .bool true]) (w.alloc (.map classMap 3)) := fun w =>
              run_lookup_hit 126 9 3 _ _ _ _ 1 _ true _ Tryz.underlying126 Tryz.underlying9 (heap_last w _) (by rw [e2]; kernel_rfl)
            clear e1 e2
            go_wp2_with fail
            go_ret2
            rw [HR2.out]
            exact ⟨rfl, HB2.out.alloc HB2.out.size _⟩
          · by_cases e3 : s = ⟨#[98, 101, 97, 109]⟩
            · have HR2 := Lib.hid (HR.out.trans ((if_neg e1).trans ((if_neg e2).trans (if_pos e3))))
              have hlk : ∀ w : World, (Instr.lookup 126 (.map (some w.heap.size)) (.string s) true).run Tryz.prog (w.alloc (.map classMap 3)) = .ok (.tuple #[.int .i64 3, .bool true]) (w.alloc (.map classMap 3)) := fun w =>
                run_lookup_hit 126 9 3 _ _ _ _ 2 _ true _ Tryz.underlying126 Tryz.underlying9 (heap_last w _) (by rw [e3]; kernel_rfl)
              clear e1 e2 e3
              go_wp2_with fail
              go_ret2
              rw [HR2.out]
              exact ⟨rfl, HB2.out.alloc HB2.out.size _⟩
            · have HR2 := Lib.hid (HR.out.trans ((if_neg e1).trans ((if_neg e2).trans (if_neg e3))))
              have hlk : ∀ w : World, (Instr.lookup 126 (.map (some w.heap.size)) (.string s) true).run Tryz.prog (w.alloc (.map classMap 3)) = .ok (.tuple #[.int .i64 0, .bool false]) (w.alloc (.map classMap 3)) := fun w =>
                run_lookup_miss 126 9 3 _ _ _ _ _ true _ Tryz.underlying126 Tryz.underlying9 (heap_last w _) (by kernel_rfl) (by
                  simp only [classMap, Instr.findNow, Instr.sameNow, ba_ne e1, ba_ne e2, ba_ne e3])
              clear e1 e2 e3
              go_wp2_with fail
              go_ret2
              rw [HR2.out]
              exact ⟨rfl, HB2.out.alloc HB2.out.size _⟩
end Go.Proofs.YtjojihadnplllaaGreatDoor
