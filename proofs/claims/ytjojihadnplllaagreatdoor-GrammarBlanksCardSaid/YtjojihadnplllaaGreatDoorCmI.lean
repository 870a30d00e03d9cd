/- The deferred closure of grammar's read (commands): behind a failure it lays the error into the results; behind a return it does nothing. -/
import Derived.Test.YtjojihadnplllaaGreatDoorCmH
import Derived.Defers
import Derived.Recover
import Derived.Laws.Pointers
import Derived.BigRegion
import Derived.Deep.RegionHeld
namespace Go.Proofs.YtjojihadnplllaaGreatDoor
open Go.RowKit Go Go.Shelf Go.Proofs

/-- One operation of a region: a whole variable into one's own block. -/
theorem wp_store_own {ty : TypeId} {P : Program} {dst : Option Tmp} {x y : Operand} {t : TypeId} {pos : String} {after : Array Edge} {a : Act} {w : World} {K : Act → World → Prop} {Q : Exit → Act → World → Prop} {b : Nat} {vs cs : List Value} (hw : Own w b vs)
    (hx : a.eval x = .pointer (some ⟨b, 0, none⟩)) (hy : a.eval y = .agg cs.toArray) (hl : cs.length = vs.length)
    (hi : (P.info? ty).map (·.size) = some cs.length) (h1 : cs.all (·.oneCell') = true)
    (h : K (a.put dst undef) (w.setCells b 0 cs)) : Oper.wp P { dst := dst, op := .store ty x y, type := t, pos := pos, after := after, guard := none } a w K Q :=
  wp_store_mid ty x y rfl b 0 cs.toArray hx hy (by rw [List.size_toArray, hl]; exact hw.may) (by simpa using hi) (by simpa using h1) h
theorem yields_load_own {ty : TypeId} {P : Program} {ops : Array Oper} {dst : Option Tmp} {x : Operand} {t : TypeId} {pos : String} {after : Array Edge} {a : Act} {S : World → Prop} {b : Nat} {cs : List Value}
    (hx : a.eval x = .pointer (some ⟨b, 0, none⟩)) {d : TypeDesc} (hu : P.underlying ty = some d) (hd : d.isRow = true) (hi : (P.info? ty).map (·.size) = some cs.length) (hS : ∀ w, S w → Own w b cs) :
    YieldsIf P ops S { dst := dst, op := .load ty x, type := t, pos := pos, after := after, guard := none } (.agg cs.toArray) a :=
  yieldsIf_load_mid rfl ty x rfl b 0 hx cs d (fun w hw => (hS w hw).range) hu hd hi

/-- Three blocks of one's own; every other block is as it was in W. -/
structure R3 (W : World) (d p q : Nat) (ds : List Value) (p0 q0 : Value) (w : World) : Prop where
  os : w.os = W.os
  tape : w.tape = W.tape
  output : w.output = W.output
  size : w.heap.size = W.heap.size
  block : ∀ k, k ≠ d → k ≠ p → k ≠ q → w.heap[k]? = W.heap[k]?
  od : Own w d ds
  op : Own w p [p0]
  oq : Own w q [q0]
theorem Own.setCells {w : World} {b : Nat} {vs : List Value} (h : Own w b vs) (cs : List Value) (hl : cs.length = vs.length) : Own (w.setCells b 0 cs) b cs := by
  refine ⟨by rw [setCells_size]; exact h.lt, w.rangeAt_setCells_same b 0 cs (by rw [hl]; exact h.may), ?_⟩
  rw [hl]; exact World.there_setCells h.may b 0 cs
theorem setCells_os (b : Nat) : ∀ (vs : List Value) (o : Nat) (w : World), (w.setCells b o vs).os = w.os
  | [], _, _ => rfl
  | v :: vs, o, w => setCells_os b vs (o + 1) (w.setCell ⟨b, o, none⟩ v)
theorem setCells_tape (b : Nat) : ∀ (vs : List Value) (o : Nat) (w : World), (w.setCells b o vs).tape = w.tape
  | [], _, _ => rfl
  | v :: vs, o, w => setCells_tape b vs (o + 1) (w.setCell ⟨b, o, none⟩ v)
theorem setCells_output (b : Nat) : ∀ (vs : List Value) (o : Nat) (w : World), (w.setCells b o vs).output = w.output
  | [], _, _ => rfl
  | v :: vs, o, w => setCells_output b vs (o + 1) (w.setCell ⟨b, o, none⟩ v)
section
variable {W w : World} {d p q : Nat} {ds : List Value} {p0 q0 : Value}
theorem R3.setD (h : R3 W d p q ds p0 q0 w) (hp : d ≠ p) (hq : d ≠ q) (cs : List Value) (hl : cs.length = ds.length) : R3 W d p q cs p0 q0 (w.setCells d 0 cs) :=
  ⟨(setCells_os _ _ _ _).trans h.os, (setCells_tape _ _ _ _).trans h.tape, (setCells_output _ _ _ _).trans h.output, (setCells_size _ _ _ _).trans h.size,
    fun k h1 h2 h3 => (setCells_block d cs 0 w k h1).trans (h.block k h1 h2 h3), h.od.setCells cs hl,
    h.op.block (by rw [setCells_size]; exact Nat.le_refl _) (setCells_block d cs 0 w p hp.symm), h.oq.block (by rw [setCells_size]; exact Nat.le_refl _) (setCells_block d cs 0 w q hq.symm)⟩
theorem R3.setP (h : R3 W d p q ds p0 q0 w) (hp : d ≠ p) (hq : p ≠ q) (v : Value) : R3 W d p q ds v q0 (w.setCell ⟨p, 0, none⟩ v) :=
  ⟨h.os, h.tape, h.output, (by simpa [World.setCell] using h.size),
    fun k h1 h2 h3 => (Below.heap_setCell _ _ _ _ h2).trans (h.block k h1 h2 h3), h.od.setOther (p := ⟨p, 0, none⟩) hp.symm v, h.op.set (k := 0) (by simp) v, h.oq.setOther (p := ⟨p, 0, none⟩) hq v⟩
theorem R3.setQ (h : R3 W d p q ds p0 q0 w) (hp : d ≠ q) (hq : p ≠ q) (v : Value) : R3 W d p q ds p0 v (w.setCell ⟨q, 0, none⟩ v) :=
  ⟨h.os, h.tape, h.output, (by simpa [World.setCell] using h.size),
    fun k h1 h2 h3 => (Below.heap_setCell _ _ _ _ h3).trans (h.block k h1 h2 h3), h.od.setOther (p := ⟨q, 0, none⟩) hp.symm v, h.op.setOther (p := ⟨q, 0, none⟩) hq.symm v, h.oq.set (k := 0) (by simp) v⟩
theorem R3.other {b : Nat} {cs : List Value} (h : R3 W d p q ds p0 q0 w) (ho : Own W b cs) (h1 : b ≠ d) (h2 : b ≠ p) (h3 : b ≠ q) : Own w b cs :=
  ho.block (by rw [h.size]; exact Nat.le_refl _) (h.block b h1 h2 h3)
end
theorem assert145 (x y : Int) (w : World) : (Instr.typeAssert (.iface 145 (.agg #[.int .i64 x, .int .i64 y])) 20 145 true).run Tryz.prog w = .ok (.tuple #[.agg #[.int .i64 x, .int .i64 y], .bool true]) w := by kernel_rfl
theorem run_storeVar_one {P : Program} {ty : TypeId} {b : Nat} {v : Value} {k : IntKind} {n : Int} {w : World} (hw : Own w b [v]) (hi : (P.info? ty).map (·.size) = some 1) :
    (storeVar ty ⟨b, 0, none⟩ (.int k n)).run P w = .ok () (w.setCell ⟨b, 0, none⟩ (.int k n)) := by
  have hc := hw.cell (k := 0) rfl
  have hf := hw.frozen (k := 0) (by simp)
  have := run_storeCells_cells (P := P) b 0 [.int k n] 0 w (fun j hj => by simp at hj; subst hj; simp [hc]) (fun j hj => by simp at hj; subst hj; simp [hf]) (fun u hu => by simp at hu; subst hu; rfl)
  cases hq : P.info? ty with
  | none => simp [hq] at hi
  | some i =>
    have hs : i.size = 1 := by simpa [hq] using hi
    simp only [Nat.add_zero] at this
    simp [storeVar, sizeOf, typeInfo, Value.cells, hq, hs, this]
    rfl
theorem wp_store_one {ty : TypeId} {P : Program} {dst : Option Tmp} {x y : Operand} {t : TypeId} {pos : String} {after : Array Edge} {a : Act} {w : World} {K : Act → World → Prop} {Q : Exit → Act → World → Prop} {b : Nat} {v : Value} {k : IntKind} {n : Int} (hw : Own w b [v])
    (hx : a.eval x = .pointer (some ⟨b, 0, none⟩)) (hy : a.eval y = .int k n) (hi : (P.info? ty).map (·.size) = some 1)
    (h : K (a.put dst undef) (w.setCell ⟨b, 0, none⟩ (.int k n))) : Oper.wp P { dst := dst, op := .store ty x y, type := t, pos := pos, after := after, guard := none } a w K Q := by
  unfold Oper.wp execOp
  simp only [hx, hy, Instr.storeAt, Instr.sureAddr, Sem.run_bind, Sem.run_pure, Result.andThen_ok, run_storeVar_one hw hi]
  exact h
theorem size3 : (Tryz.prog.info? 3).map (·.size) = some 1 := by kernel_rfl
theorem size30 : (Tryz.prog.info? 30).map (·.size) = some 1 := by kernel_rfl

/-- Three operations of a drawn region that are left, which come up in their own order. -/
theorem stores3 {P : Program} {md : Region.Mode} {ops : Array Oper} {Q : Exit → Act → World → Prop} {S : World → Prop} {fuel : Nat} {listed : Array Bool} {a : Act} {w : World} {i j k : Nat} {oi oj ok : Oper}
    (I0 I1 I2 I3 : World → Prop) (hi : ops[i]? = some oi) (hj : ops[j]? = some oj) (hk : ops[k]? = some ok)
    (r0 : Region.ready md ops listed = [i]) (r1 : Region.ready md ops (listed.setIfInBounds i true) = [j]) (r2 : Region.ready md ops ((listed.setIfInBounds i true).setIfInBounds j true) = [k])
    (r3 : Region.ready md ops (((listed.setIfInBounds i true).setIfInBounds j true).setIfInBounds k true) = [])
    (gi : Region.wanted oi (yielded ops a.tmps) = true) (gj : Region.wanted oj (yielded ops a.tmps) = true) (gk : Region.wanted ok (yielded ops a.tmps) = true)
    (si : ∀ w (K : Act → World → Prop), I0 w → (∀ w', I1 w' → K a w') → Oper.wp P oi a w K Q)
    (sj : ∀ w (K : Act → World → Prop), I1 w → (∀ w', I2 w' → K a w') → Oper.wp P oj a w K Q)
    (sk : ∀ w (K : Act → World → Prop), I2 w → (∀ w', I3 w' → K a w') → Oper.wp P ok a w K Q)
    (s1 : ∀ w, I1 w → S w) (s2 : ∀ w, I2 w → S w) (s3 : ∀ w, I3 w → S w) (h0 : I0 w) (hQ : ∀ w', I3 w' → Q .normal a w') : wpAnyH P md ops Q S (fuel + 3) listed a w := by
  refine wpAnyH_ready r0 (by simp) (AllReadyH.cons hi (fun K hK => ?_) AllReadyH.nil)
  rw [if_pos gi]
  refine si w K h0 fun w1 h1 => hK.out _ _ (s1 w1 h1) fun _ => ?_
  refine wpAnyH_ready r1 (by simp) (AllReadyH.cons hj (fun K hK => ?_) AllReadyH.nil)
  rw [if_pos gj]
  refine sj w1 K h1 fun w2 h2 => hK.out _ _ (s2 w2 h2) fun _ => ?_
  refine wpAnyH_ready r2 (by simp) (AllReadyH.cons hk (fun K hK => ?_) AllReadyH.nil)
  rw [if_pos gk]
  exact sk w2 K h2 fun w3 h3 => hK.out _ _ (s3 w3 h3) fun _ => wpAnyH_done r3 (hQ w3 h3) fuel

def zeros : List Value := cmdCells cmd0 (.slice none 0 0)
/-- What the deferred closure leaves behind a failure: the results' blocks; every other block is as it was. -/
structure Caught (w : World) (d p q : Nat) (ds : List Value) (x y : Value) (w' : World) : Prop where
  os : w'.os = w.os
  tape : w'.tape = w.tape
  output : w'.output = w.output
  size : w.heap.size ≤ w'.heap.size
  block : ∀ k, k < w.heap.size → k ≠ d → k ≠ p → k ≠ q → w'.heap[k]? = w.heap[k]?
  od : Own w' d ds
  op : Own w' p [x]
  oq : Own w' q [y]
theorem Caught.mk' {w w' : World} {d p q : Nat} {ds : List Value} {x y : Value} {o1 o2 : Obj} (h : R3 ((w.alloc o1).alloc o2).drew d p q ds x y w') : Caught w d p q ds x y w' := by
  have hb : Below w.heap.size w ((w.alloc o1).alloc o2).drew := (((Below.refl _ _).alloc (Nat.le_refl _) _).alloc (by simp) _).drew
  exact ⟨h.os.trans hb.os, h.tape.trans hb.tape, h.output.trans hb.output, by rw [h.size]; exact hb.size, fun k hk h1 h2 h3 => (h.block k h1 h2 h3).trans (hb.block k hk), h.od, h.op, h.oq⟩
def failM (pos er : Int) (r : Bool) : FrameMode := .panicking [{ v := .iface 145 (.agg #[.int .i64 pos, .int .i64 er]), recovered := r }]

set_option maxRecDepth 100000 in
set_option maxHeartbeats 4000000 in
theorem catch_fail {d p q : Nat} {vs : List Value} {a b : Value} {pos er : Int} {w : World} (hd : Own w d vs) (hl : vs.length = 19) (hp : Own w p [a]) (hq : Own w q [b]) (hdp : d ≠ p) (hdq : d ≠ q) (hpq : p ≠ q) :
    CallsD Tryz.prog 92 #[.pointer (some ⟨d, 0, none⟩), .pointer (some ⟨p, 0, none⟩), .pointer (some ⟨q, 0, none⟩)] (failM pos er false) w fun e u' w' =>
      e = .returned (.tuple #[]) ∧ u' = failM pos er true ∧ Caught w d p q zeros (.int .i64 pos) (.int .i64 er) w' := by
  unfold failM zeros
  refine callsD_of_wpS Tryz.func92 rfl fun c₀ cs hu => ?_
  apply wpS_seq
  apply wpS_region
  simp [wpOpsS, go_sem, recoverD, hu, Tryz.ntmps92, Exit.thenS]
  refine wpS_of_wp ?_
  rw [show (Array.replicate 20 undef : Array Value) = #[undef, undef, undef, undef, undef, undef, undef, undef, undef, undef, undef, undef, undef, undef, undef, undef, undef, undef, undef, undef] from rfl]
  simp only [List.setIfInBounds_toArray, List.set_cons_zero, List.set_cons_succ, List.append_toArray, List.cons_append, List.nil_append]
  have has := assert145 pos er
  go_wp2_with fail
  have hC : ∀ ds x y w', R3 (((w.alloc (.cells #[.int .i64 pos, .int .i64 er] 145)).alloc (.cells #[.int .i64 0, .string ⟨#[]⟩, .string ⟨#[]⟩, .string ⟨#[]⟩, .int .i64 0, .slice none 0 0, .int .i64 0, .int .i64 0, .int .i64 0, .int .i64 0, .int .i64 0, .int .i64 0, .int .i64 0, .string ⟨#[]⟩, .int .i64 0, .int .i64 0, .int .i64 0, .string ⟨#[]⟩, .slice none 0 0] 29)).drew) d p q ds x y w' → Caught w d p q ds x y w' := fun _ _ _ _ h => Caught.mk' h
  have n1 : d ≠ w.heap.size := Nat.ne_of_lt hd.lt
  have n2 : p ≠ w.heap.size := Nat.ne_of_lt hp.lt
  have n3 : q ≠ w.heap.size := Nat.ne_of_lt hq.lt
  have m1 : d ≠ w.heap.size + 1 := by have := hd.lt; omega
  have m2 : p ≠ w.heap.size + 1 := by have := hp.lt; omega
  have m3 : q ≠ w.heap.size + 1 := by have := hq.lt; omega
  have HS0 : Own (w.alloc (.cells #[.int .i64 pos, .int .i64 er] 145)) w.heap.size [.int .i64 pos, .int .i64 er] := Own.allocNew w [.int .i64 pos, .int .i64 er] 145
  have HU0 := Own.allocNew (w.alloc (.cells #[.int .i64 pos, .int .i64 er] 145)) [.int .i64 0, .string ⟨#[]⟩, .string ⟨#[]⟩, .string ⟨#[]⟩, .int .i64 0, .slice none 0 0, .int .i64 0, .int .i64 0, .int .i64 0, .int .i64 0, .int .i64 0, .int .i64 0, .int .i64 0, .string ⟨#[]⟩, .int .i64 0, .int .i64 0, .int .i64 0, .string ⟨#[]⟩, .slice none 0 0] 29
  rw [show (w.alloc (.cells #[Value.int .i64 pos, .int .i64 er] 145)).heap.size = w.heap.size + 1 by simp] at HU0
  have HS1 := HS0.allocOld (.cells #[.int .i64 0, .string ⟨#[]⟩, .string ⟨#[]⟩, .string ⟨#[]⟩, .int .i64 0, .slice none 0 0, .int .i64 0, .int .i64 0, .int .i64 0, .int .i64 0, .int .i64 0, .int .i64 0, .int .i64 0, .string ⟨#[]⟩, .int .i64 0, .int .i64 0, .int .i64 0, .string ⟨#[]⟩, .slice none 0 0] 29)
  have HD1 := (hd.allocOld (.cells #[.int .i64 pos, .int .i64 er] 145)).allocOld (.cells #[.int .i64 0, .string ⟨#[]⟩, .string ⟨#[]⟩, .string ⟨#[]⟩, .int .i64 0, .slice none 0 0, .int .i64 0, .int .i64 0, .int .i64 0, .int .i64 0, .int .i64 0, .int .i64 0, .int .i64 0, .string ⟨#[]⟩, .int .i64 0, .int .i64 0, .int .i64 0, .string ⟨#[]⟩, .slice none 0 0] 29)
  have HP1 := (hp.allocOld (.cells #[.int .i64 pos, .int .i64 er] 145)).allocOld (.cells #[.int .i64 0, .string ⟨#[]⟩, .string ⟨#[]⟩, .string ⟨#[]⟩, .int .i64 0, .slice none 0 0, .int .i64 0, .int .i64 0, .int .i64 0, .int .i64 0, .int .i64 0, .int .i64 0, .int .i64 0, .string ⟨#[]⟩, .int .i64 0, .int .i64 0, .int .i64 0, .string ⟨#[]⟩, .slice none 0 0] 29)
  have HQ1 := (hq.allocOld (.cells #[.int .i64 pos, .int .i64 er] 145)).allocOld (.cells #[.int .i64 0, .string ⟨#[]⟩, .string ⟨#[]⟩, .string ⟨#[]⟩, .int .i64 0, .slice none 0 0, .int .i64 0, .int .i64 0, .int .i64 0, .int .i64 0, .int .i64 0, .int .i64 0, .int .i64 0, .string ⟨#[]⟩, .int .i64 0, .int .i64 0, .int .i64 0, .string ⟨#[]⟩, .slice none 0 0] 29)
  clear hd hp hq HS0
  generalize hW : (w.alloc (.cells #[Value.int .i64 pos, .int .i64 er] 145)).alloc (.cells #[.int .i64 0, .string ⟨#[]⟩, .string ⟨#[]⟩, .string ⟨#[]⟩, .int .i64 0, .slice none 0 0, .int .i64 0, .int .i64 0, .int .i64 0, .int .i64 0, .int .i64 0, .int .i64 0, .int .i64 0, .string ⟨#[]⟩, .int .i64 0, .int .i64 0, .int .i64 0, .string ⟨#[]⟩, .slice none 0 0] 29) = W at *
  have HW := Lib.hid hW
  clear hW
  have HC := Lib.hid hC
  clear hC
  have HU : Hid (Own W.drew (w.heap.size + 1) [.int .i64 0, .string ⟨#[]⟩, .string ⟨#[]⟩, .string ⟨#[]⟩, .int .i64 0, .slice none 0 0, .int .i64 0, .int .i64 0, .int .i64 0, .int .i64 0, .int .i64 0, .int .i64 0, .int .i64 0, .string ⟨#[]⟩, .int .i64 0, .int .i64 0, .int .i64 0, .string ⟨#[]⟩, .slice none 0 0]) := Own.block HU0 (Nat.le_refl _) rfl
  have HS : Hid (Own W.drew w.heap.size [.int .i64 pos, .int .i64 er]) := HS1.block (Nat.le_refl _) rfl
  have H0 : Hid (R3 W.drew d p q vs a b W.drew) := ⟨rfl, rfl, rfl, rfl, fun _ _ _ _ => rfl, HD1.block (Nat.le_refl _) rfl, HP1.block (Nat.le_refl _) rfl, HQ1.block (Nat.le_refl _) rfl⟩
  clear HU0 HS1 HD1 HP1 HQ1
  generalize w.heap.size = S at *
  refine wp_region_held_drew (S := fun w' => ∃ ds x y, Hid (R3 W.drew d p q ds x y w')) (by kernel_rfl) ⟨_, _, _, H0⟩ (fun hHeld => ?_)
  refine wpAnyH_take (i := 0) (oi := { dst := some 18, op := .load 29 (.tmp 6), type := 29, pos := "grammar.go:458", after := #[], guard := none }) (v := .agg #[.int .i64 0, .string ⟨#[]⟩, .string ⟨#[]⟩, .string ⟨#[]⟩, .int .i64 0, .slice none 0 0, .int .i64 0, .int .i64 0, .int .i64 0, .int .i64 0, .int .i64 0, .int .i64 0, .int .i64 0, .string ⟨#[]⟩, .int .i64 0, .int .i64 0, .int .i64 0, .string ⟨#[]⟩, .slice none 0 0]) rfl (by kernel_rfl) (by kernel_rfl) (by kernel_rfl) (fun _ _ _ h => h) (yields_load_own (cs := [.int .i64 0, .string ⟨#[]⟩, .string ⟨#[]⟩, .string ⟨#[]⟩, .int .i64 0, .slice none 0 0, .int .i64 0, .int .i64 0, .int .i64 0, .int .i64 0, .int .i64 0, .int .i64 0, .int .i64 0, .string ⟨#[]⟩, .int .i64 0, .int .i64 0, .int .i64 0, .string ⟨#[]⟩, .slice none 0 0]) rfl Tryz.underlying29 rfl size29 (fun w1 ⟨_, _, _, h1⟩ => R3.other h1.out HU.out m1.symm m2.symm m3.symm)) hHeld ?_
  refine wpAnyH_take (i := 1) (oi := { dst := some 19, op := .fieldAddr 145 (.tmp 4) 0, type := 0, pos := "grammar.go:458", after := #[{ on := 5, ground := Ground.gcOnly Departure.lateStores }], guard := none }) (v := .pointer (some ⟨S, 0, none⟩)) rfl (by kernel_rfl) (by kernel_rfl) (by kernel_rfl) (fun _ _ _ h => h) (Or.inl ⟨by rfl, fun w1 _ => by go_simp⟩) hHeld ?_
  refine wpAnyH_take (i := 3) (oi := { dst := some 21, op := .fieldAddr 145 (.tmp 4) 1, type := 0, pos := "grammar.go:458", after := #[{ on := 6, ground := Ground.gcOnly Departure.lateStores }], guard := none }) (v := .pointer (some ⟨S, 1, none⟩)) rfl (by kernel_rfl) (by kernel_rfl) (by kernel_rfl) (fun _ _ _ h => h) (Or.inl ⟨by rfl, fun w1 _ => by go_simp⟩) hHeld ?_
  refine wpAnyH_take (i := 2) (oi := { dst := some 20, op := .load 3 (.tmp 19), type := 3, pos := "grammar.go:458", after := #[{ on := 1, ground := Ground.data }, { on := 5, ground := Ground.gcOnly Departure.lateStores }], guard := none }) (v := .int .i64 pos) rfl (by kernel_rfl) (by kernel_rfl) (by kernel_rfl) (fun _ _ _ h => h) (Or.inl ⟨by rfl, fun w1 ⟨_, _, _, h1⟩ => by have h2 := (R3.other h1.out HS.out n1.symm n2.symm n3.symm).cell (k := 0) rfl; go_simp⟩) hHeld ?_
  refine wpAnyH_take (i := 4) (oi := { dst := some 22, op := .load 30 (.tmp 21), type := 30, pos := "grammar.go:458", after := #[{ on := 3, ground := Ground.data }, { on := 6, ground := Ground.gcOnly Departure.lateStores }], guard := none }) (v := .int .i64 er) rfl (by kernel_rfl) (by kernel_rfl) (by kernel_rfl) (fun _ _ _ h => h) (Or.inl ⟨by rfl, fun w1 ⟨_, _, _, h1⟩ => by have h2 := (R3.other h1.out HS.out n1.symm n2.symm n3.symm).cell (k := 1) rfl; go_simp⟩) hHeld ?_
  simp only [Act.put, List.setIfInBounds_toArray, List.set_cons_zero, List.set_cons_succ]
  refine stores3 (i := 5) (j := 6) (k := 7) (fun w' => Hid (R3 W.drew d p q vs a b w')) (fun w' => Hid (R3 W.drew d p q [.int .i64 0, .string ⟨#[]⟩, .string ⟨#[]⟩, .string ⟨#[]⟩, .int .i64 0, .slice none 0 0, .int .i64 0, .int .i64 0, .int .i64 0, .int .i64 0, .int .i64 0, .int .i64 0, .int .i64 0, .string ⟨#[]⟩, .int .i64 0, .int .i64 0, .int .i64 0, .string ⟨#[]⟩, .slice none 0 0] a b w')) (fun w' => Hid (R3 W.drew d p q [.int .i64 0, .string ⟨#[]⟩, .string ⟨#[]⟩, .string ⟨#[]⟩, .int .i64 0, .slice none 0 0, .int .i64 0, .int .i64 0, .int .i64 0, .int .i64 0, .int .i64 0, .int .i64 0, .int .i64 0, .string ⟨#[]⟩, .int .i64 0, .int .i64 0, .int .i64 0, .string ⟨#[]⟩, .slice none 0 0] (.int .i64 pos) b w')) (fun w' => Hid (R3 W.drew d p q [.int .i64 0, .string ⟨#[]⟩, .string ⟨#[]⟩, .string ⟨#[]⟩, .int .i64 0, .slice none 0 0, .int .i64 0, .int .i64 0, .int .i64 0, .int .i64 0, .int .i64 0, .int .i64 0, .int .i64 0, .string ⟨#[]⟩, .int .i64 0, .int .i64 0, .int .i64 0, .string ⟨#[]⟩, .slice none 0 0] (.int .i64 pos) (.int .i64 er) w')) rfl rfl rfl
    (by kernel_rfl) (by kernel_rfl) (by kernel_rfl) (by kernel_rfl) rfl rfl rfl ?_ ?_ ?_ (fun _ h => ⟨_, _, _, h⟩) (fun _ h => ⟨_, _, _, h⟩) (fun _ h => ⟨_, _, _, h⟩) H0 ?_
  · intro w1 K h hK
    exact wp_store_own (ty := 29) (cs := [.int .i64 0, .string ⟨#[]⟩, .string ⟨#[]⟩, .string ⟨#[]⟩, .int .i64 0, .slice none 0 0, .int .i64 0, .int .i64 0, .int .i64 0, .int .i64 0, .int .i64 0, .int .i64 0, .int .i64 0, .string ⟨#[]⟩, .int .i64 0, .int .i64 0, .int .i64 0, .string ⟨#[]⟩, .slice none 0 0]) h.out.od rfl rfl hl.symm size29 rfl (hK _ (Lib.hid (h.out.setD hdp hdq [.int .i64 0, .string ⟨#[]⟩, .string ⟨#[]⟩, .string ⟨#[]⟩, .int .i64 0, .slice none 0 0, .int .i64 0, .int .i64 0, .int .i64 0, .int .i64 0, .int .i64 0, .int .i64 0, .int .i64 0, .string ⟨#[]⟩, .int .i64 0, .int .i64 0, .int .i64 0, .string ⟨#[]⟩, .slice none 0 0] hl.symm)))
  · intro w1 K h hK
    exact wp_store_one (ty := 3) h.out.op rfl rfl size3 (hK _ (Lib.hid (h.out.setP hdp hpq (.int .i64 pos))))
  · intro w1 K h hK
    exact wp_store_one (ty := 30) h.out.oq rfl rfl size30 (hK _ (Lib.hid (h.out.setQ hdq hpq (.int .i64 er))))
  · intro w1 h
    have HF := Lib.hid (HC.out _ _ _ _ h.out)
    exact ⟨rfl, _, rfl, _, results_none rfl _ _ _, rfl, rfl, HF⟩

set_option maxRecDepth 100000 in
set_option maxHeartbeats 1000000 in
theorem catch_ret {d p q : Nat} {w : World} :
    CallsD Tryz.prog 92 #[.pointer (some ⟨d, 0, none⟩), .pointer (some ⟨p, 0, none⟩), .pointer (some ⟨q, 0, none⟩)] .returning w fun e u' w' => e = .returned (.tuple #[]) ∧ u' = .returning ∧ w' = w := by
  refine callsD_of_wpS Tryz.func92 rfl fun c₀ cs hu => ?_
  apply wpS_seq
  apply wpS_region
  simp [wpOpsS, go_sem, recoverD, hu, Tryz.ntmps92, Exit.thenS]
  refine wpS_of_wp ?_
  rw [show (Array.replicate 20 undef : Array Value) = #[undef, undef, undef, undef, undef, undef, undef, undef, undef, undef, undef, undef, undef, undef, undef, undef, undef, undef, undef, undef] from rfl]
  simp only [List.setIfInBounds_toArray, List.set_cons_zero, List.set_cons_succ, List.append_toArray, List.cons_append, List.nil_append]
  go_wp2_with fail
  exact ⟨rfl, .returning, by rw [← hu], _, results_none rfl _ _ _, rfl, rfl, rfl⟩
end Go.Proofs.YtjojihadnplllaaGreatDoor
