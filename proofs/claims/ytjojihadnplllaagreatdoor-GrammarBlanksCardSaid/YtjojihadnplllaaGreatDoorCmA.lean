/- Blocks of one's own while a method of grammar's reader goes on: what is kept from call to call; the steps of such a walk. -/
import Derived.Test.YtjojihadnplllaaGreatDoorRdB
import Derived.Deep.MidRow
import Derived.Deep.WholeRow
namespace Go.Proofs.YtjojihadnplllaaGreatDoor
open Go.RowKit Go Go.Shelf Go.Proofs

/-- Block b is there, holds these cells, and may be written. -/
structure Own (w : World) (b : Nat) (vs : List Value) : Prop where
  lt : b < w.heap.size
  range : w.rangeAt b 0 vs
  may : w.there b 0 vs.length

theorem Own.block {w w' : World} {b : Nat} {vs : List Value} (h : Own w b vs) (hs : w.heap.size ≤ w'.heap.size) (hb : w'.heap[b]? = w.heap[b]?) : Own w' b vs := by
  refine ⟨Nat.lt_of_lt_of_le h.lt hs, fun j v hv => ?_, fun j hj => ⟨?_, ?_⟩⟩
  · rw [World.cell?_of_block (w := w) (a := ⟨b, 0 + j, none⟩) hb]; exact h.range j v hv
  · rw [World.cell?_of_block (w := w) (a := ⟨b, 0 + j, none⟩) hb]; exact (h.may j hj).1
  · rw [World.frozen?_of_block (w := w) (a := ⟨b, 0 + j, none⟩) hb]; exact (h.may j hj).2
theorem Own.ext {rb : Nat} {w w' : World} {b : Nat} {vs : List Value} (h : Own w b vs) (he : Ext rb w w') (hb : b ≠ rb) : Own w' b vs :=
  h.block he.size (he.block b h.lt hb)
theorem Own.allocOld {w : World} {b : Nat} {vs : List Value} (h : Own w b vs) (o : Obj) : Own (w.alloc o) b vs :=
  h.block (by simp) (((Below.refl _ _).alloc (Nat.le_refl _) o : Below w.heap.size w (w.alloc o)).block b h.lt)
theorem Own.allocNew (w : World) (vs : List Value) (t : TypeId) : Own (w.alloc (.cells vs.toArray t)) w.heap.size vs := by
  refine ⟨by simp, fun j v hv => ?_, fun j hj => ⟨?_, ?_⟩⟩
  · rw [World.cell?_alloc_new]; simpa using hv
  · rw [World.cell?_alloc_new]; simp [hj]
  · simp
theorem Own.setOther {w : World} {b : Nat} {vs : List Value} (h : Own w b vs) {p : Addr} (hp : p.block ≠ b) (v : Value) : Own (w.setCell p v) b vs :=
  h.block (by simp [World.setCell]) (Below.heap_setCell _ _ _ _ (fun e => hp e.symm) |> fun e => e)
theorem Own.cell {w : World} {b : Nat} {vs : List Value} (h : Own w b vs) {k : Nat} {v : Value} (hv : vs[k]? = some v) : w.cell? ⟨b, k, none⟩ = some v := by
  have := h.range k v hv
  rwa [Nat.zero_add] at this
theorem Own.frozen {w : World} {b : Nat} {vs : List Value} (h : Own w b vs) {k : Nat} (hk : k < vs.length) : w.frozen? ⟨b, k, none⟩ = false := by
  have := (h.may k hk).2
  rwa [Nat.zero_add] at this
theorem Own.set {w : World} {b : Nat} {vs : List Value} (h : Own w b vs) {k : Nat} (hk : k < vs.length) (v : Value) : Own (w.setCell ⟨b, k, none⟩ v) b (vs.set k v) := by
  have hc : ∀ j, j < vs.length → (w.setCell ⟨b, k, none⟩ v).cell? ⟨b, j, none⟩ = if j = k then some v else w.cell? ⟨b, j, none⟩ := fun j hj => by
    by_cases hjk : j = k
    · subst hjk
      rw [if_pos rfl]
      exact World.cell?_setCell_same w _ v (h.cell (List.getElem?_eq_getElem hj))
    · rw [if_neg hjk, World.cell?_setCell_other _ _ _ _ (fun e => hjk (by cases e; rfl))]
  refine ⟨by simpa [World.setCell] using h.lt, fun j u hu => ?_, fun j hj => ⟨?_, ?_⟩⟩
  · have hj : j < vs.length := by have := (List.getElem?_eq_some_iff.1 hu).1; simpa using this
    rw [Nat.zero_add, hc j hj]
    by_cases hjk : j = k
    · subst hjk
      rw [if_pos rfl]
      rw [List.getElem?_set_self hj] at hu
      exact hu
    · rw [if_neg hjk]
      rw [List.getElem?_set_ne (fun e => hjk e.symm)] at hu
      exact h.cell hu
  · have hj' : j < vs.length := by simpa using hj
    rw [Nat.zero_add, hc j hj']
    split
    · rfl
    · rw [h.cell (List.getElem?_eq_getElem hj')]; rfl
  · have hj' : j < vs.length := by simpa using hj
    rw [Nat.zero_add]; simpa using h.frozen hj'
theorem setCells_size (b : Nat) : ∀ (vs : List Value) (o : Nat) (w : World), (w.setCells b o vs).heap.size = w.heap.size
  | [], _, _ => rfl
  | v :: vs, o, w => (setCells_size b vs (o + 1) (w.setCell ⟨b, o, none⟩ v)).trans (by simp [World.setCell])
theorem setCells_block (b : Nat) : ∀ (vs : List Value) (o : Nat) (w : World) (k : Nat), k ≠ b → (w.setCells b o vs).heap[k]? = w.heap[k]?
  | [], _, _, _, _ => rfl
  | v :: vs, o, w, k, hk => (setCells_block b vs (o + 1) (w.setCell ⟨b, o, none⟩ v) k hk).trans (Below.heap_setCell _ _ _ _ hk)
theorem Own.setAll {w : World} {b : Nat} {vs : List Value} (h : Own w b vs) (us : List Value) (hl : us.length = vs.length) : Own (w.setCells b 0 us) b us :=
  ⟨by rw [setCells_size]; exact h.lt, World.rangeAt_setCells_same w b 0 us (by rw [hl]; exact h.may), by rw [hl]; exact World.there_setCells h.may b 0 us⟩

/-- Where a method of the reader has come to: the reader, what it has turned, what is still to be read, the blocks of its own. -/
structure St {α : Type} (rb : Nat) (w0 : World) (p0 p : Res α) (ts : List Tok) (os : List (Nat × List Value)) (w : World) : Prop where
  lt : rb < w0.heap.size
  rd : Rd w rb ts
  right : Right ts
  ext : Ext rb w0 w
  eq : p0 = p
  own : ∀ x ∈ os, w0.heap.size ≤ x.1 ∧ Own w x.1 x.2
  nd : (os.map (·.1)).Nodup

section
variable {α β : Type} {rb : Nat} {w0 w : World} {p0 p : Res α} {ts : List Tok} {own : List (Nat × List Value)}
theorem St.start (h : Rd w rb ts) (hR : Right ts) (p : Res α) : St rb w p p ts [] w :=
  ⟨h.2.2.1, h, hR, Ext.refl _ _, rfl, fun _ hx => absurd hx (by simp), by simp⟩
theorem St.cast {p' : Res α} (h : St rb w0 p0 p ts own w) (e : p = p') : St rb w0 p0 p' ts own w := by subst e; exact h
theorem St.skip (h : St rb w0 p0 p ts own w) (o : Obj) : St rb w0 p0 p ts own (w.alloc o) :=
  ⟨h.lt, h.rd.below ((Below.refl _ _).alloc (Nat.le_refl _) o), h.right, h.ext.alloc o, h.eq, fun x hx => ⟨(h.own x hx).1, (h.own x hx).2.allocOld o⟩, h.nd⟩
theorem St.drew (h : St rb w0 p0 p ts own w) : St rb w0 p0 p ts own w.drew :=
  ⟨h.lt, h.rd.below (Below.refl _ _).drew, h.right, h.ext.drew, h.eq, fun x hx => ⟨(h.own x hx).1, (h.own x hx).2.block (Nat.le_refl _) rfl⟩, h.nd⟩
theorem St.alloc (h : St rb w0 p0 p ts own w) (vs : List Value) (t : TypeId) : St rb w0 p0 p ts ((w.heap.size, vs) :: own) (w.alloc (.cells vs.toArray t)) := by
  have h1 := h.skip (.cells vs.toArray t)
  refine ⟨h1.lt, h1.rd, h1.right, h1.ext, h1.eq, fun x hx => ?_, ?_⟩
  · rcases List.mem_cons.1 hx with rfl | hx
    · exact ⟨h.ext.size, Own.allocNew w vs t⟩
    · exact h1.own x hx
  · rw [List.map_cons, List.nodup_cons]
    refine ⟨fun hm => ?_, h1.nd⟩
    obtain ⟨x, hx, he⟩ := List.mem_map.1 hm
    have := (h.own x hx).2.lt
    omega
theorem St.below {w' : World} (h : St rb w0 p0 p ts own w) (hb : Below w.heap.size w w') : St rb w0 p0 p ts own w' :=
  ⟨h.lt, h.rd.below hb, h.right, h.ext.trans (Ext.of_below hb), h.eq, fun x hx => ⟨(h.own x hx).1, (h.own x hx).2.ext (Ext.of_below (rb := rb) hb) (by have := (h.own x hx).1; have := h.lt; omega)⟩, h.nd⟩
theorem St.belowN {w' : World} (h : St rb w0 p0 p ts [] w) (hb : Below w0.heap.size w w') : St rb w0 p0 p ts [] w' :=
  ⟨h.lt, h.rd.belowN h.lt hb, h.right, ⟨hb.os.trans h.ext.os, hb.tape.trans h.ext.tape, hb.output.trans h.ext.output, Nat.le_trans h.ext.size hb.size,
    fun k hk hr => (hb.block k hk).trans (h.ext.block k hk hr)⟩, h.eq, fun x hx => absurd hx (by simp), by simp⟩
theorem St.head {c : Nat} {vs : List Value} (h : St rb w0 p0 p ts ((c, vs) :: own) w) : Own w c vs := (h.own _ (List.mem_cons_self ..)).2
theorem St.second {c d : Nat} {vs us : List Value} (h : St rb w0 p0 p ts ((c, vs) :: (d, us) :: own) w) : Own w d us := (h.own _ (List.mem_cons_of_mem _ (List.mem_cons_self ..))).2
theorem St.third {c d g : Nat} {vs us xs : List Value} (h : St rb w0 p0 p ts ((c, vs) :: (d, us) :: (g, xs) :: own) w) : Own w g xs := (h.own _ (List.mem_cons_of_mem _ (List.mem_cons_of_mem _ (List.mem_cons_self ..)))).2
theorem St.set {c : Nat} {vs : List Value} (h : St rb w0 p0 p ts ((c, vs) :: own) w) (k : Nat) (v : Value) {vs' : List Value} (hk : k < vs.length) (hv : vs.set k v = vs') : St rb w0 p0 p ts ((c, vs') :: own) (w.setCell ⟨c, k, none⟩ v) := by
  subst hv
  have h1 := (h.own (c, vs) (List.mem_cons_self ..))
  have hc : rb < c := Nat.lt_of_lt_of_le h.lt h1.1
  have hnd := List.nodup_cons.1 (show (c :: own.map (·.1)).Nodup from h.nd)
  refine ⟨h.lt, h.rd.other hc v, h.right, h.ext.setCell (Or.inr h1.1) v, h.eq, fun x hx => ?_, h.nd⟩
  rcases List.mem_cons.1 hx with rfl | hx
  · exact ⟨h1.1, h1.2.set hk v⟩
  · have h2 := h.own x (List.mem_cons_of_mem _ hx)
    refine ⟨h2.1, h2.2.setOther (fun e => hnd.1 (List.mem_map.2 ⟨x, hx, e.symm⟩)) v⟩
theorem St.setAll {c : Nat} {vs : List Value} (h : St rb w0 p0 p ts ((c, vs) :: own) w) (us : List Value) (hl : us.length = vs.length) : St rb w0 p0 p ts ((c, us) :: own) (w.setCells c 0 us) := by
  have h1 := (h.own (c, vs) (List.mem_cons_self ..))
  have hc : rb < c := Nat.lt_of_lt_of_le h.lt h1.1
  have hnd := List.nodup_cons.1 (show (c :: own.map (·.1)).Nodup from h.nd)
  have key : ∀ (us : List Value) (o : Nat) (w : World), Rd w rb ts → Ext rb w0 w → Rd (w.setCells c o us) rb ts ∧ Ext rb w0 (w.setCells c o us) := by
    intro us
    induction us with
    | nil => exact fun _ _ a b => ⟨a, b⟩
    | cons u us ih => exact fun o w a b => ih (o + 1) _ (a.other hc u) (b.setCell (Or.inr h1.1) u)
  obtain ⟨k1, k2⟩ := key us 0 w h.rd h.ext
  refine ⟨h.lt, k1, h.right, k2, h.eq, fun x hx => ?_, h.nd⟩
  rcases List.mem_cons.1 hx with rfl | hx
  · exact ⟨h1.1, h1.2.setAll us hl⟩
  · have h2 := h.own x (List.mem_cons_of_mem _ hx)
    exact ⟨h2.1, h2.2.block (by rw [setCells_size]; exact Nat.le_refl _) (setCells_block c us 0 w x.1 (fun e => hnd.1 (List.mem_map.2 ⟨x, hx, e⟩)))⟩
theorem St.swap {x y : Nat × List Value} (h : St rb w0 p0 p ts (x :: y :: own) w) : St rb w0 p0 p ts (y :: x :: own) w :=
  ⟨h.lt, h.rd, h.right, h.ext, h.eq, fun z hz => h.own z (by simp only [List.mem_cons] at hz ⊢; rcases hz with h | h | h <;> simp [h]),
    by have := h.nd; simp only [List.map_cons, List.nodup_cons, List.mem_cons, not_or] at this ⊢; exact ⟨⟨fun e => this.1.1 e.symm, this.2.1⟩, this.1.2, this.2.2⟩⟩
theorem St.third_second {x y z : Nat × List Value} (h : St rb w0 p0 p ts (x :: y :: z :: own) w) : St rb w0 p0 p ts (x :: z :: y :: own) w :=
  ⟨h.lt, h.rd, h.right, h.ext, h.eq, fun q hq => h.own q (by simp only [List.mem_cons] at hq ⊢; rcases hq with h | h | h | h <;> simp [h]),
    by have := h.nd; simp only [List.map_cons, List.nodup_cons, List.mem_cons, not_or] at this ⊢; exact ⟨⟨this.1.2.1, this.1.1, this.1.2.2⟩, ⟨fun e => this.2.1.1 e.symm, this.2.2.1⟩, this.2.1.2, this.2.2.2⟩⟩
/-- A block that a call has made joins one's own. -/
theorem St.push {w1 : World} {p' : Res α} {ts' : List Tok} (h : St rb w0 p0 p ts own w) (h' : St rb w0 p0 p' ts' own w1) {b : Nat} {cs : List Value} (hb : w.heap.size ≤ b) (ho : Own w1 b cs) :
    St rb w0 p0 p' ts' ((b, cs) :: own) w1 := by
  refine ⟨h'.lt, h'.rd, h'.right, h'.ext, h'.eq, fun x hx => ?_, ?_⟩
  · rcases List.mem_cons.1 hx with rfl | hx
    · exact ⟨Nat.le_trans h.ext.size hb, ho⟩
    · exact h'.own x hx
  · rw [List.map_cons, List.nodup_cons]
    refine ⟨fun hm => ?_, h'.nd⟩
    obtain ⟨x, hx, he⟩ := List.mem_map.1 hm
    have := (h.own x hx).2.lt
    omega
theorem St.ext' {w1 : World} {p' : Res α} {ts' : List Tok} (h : St rb w0 p0 p ts own w) (he : Ext rb w w1) (hrd : Rd w1 rb ts') (hri : Right ts') (e : p = p') : St rb w0 p0 p' ts' own w1 :=
  ⟨h.lt, hrd, hri, h.ext.trans he, h.eq.trans e, fun x hx => ⟨(h.own x hx).1, (h.own x hx).2.ext he (by have := (h.own x hx).1; have := h.lt; omega)⟩, h.nd⟩
/-- Meeting a call of a method that reads. -/
theorem St.call {A : Res β} {k : β → List Tok → Res α} {P : Program} {f : FuncId} {args : Array Value} {rep : β → World → Value → Prop} {R : Ending → World → Prop}
    (h : St rb w0 p0 (A.bind k) ts own w) (hc : Calls P f args w (Post rb w A rep))
    (hok : ∀ a ts1 v w1, Hid (A = .ok a ts1) → rep a w1 v → Hid (St rb w0 p0 (k a ts1) ts1 own w1) → R (.returned v) w1)
    (herr : ∀ p e w1, p0 = .err p e → Ext rb w0 w1 → R (failE p e) w1) : Calls P f args w R :=
  Post.step hc (fun a ts1 v w1 hr hv he hrd hri => hok a ts1 v w1 (Lib.hid hr) hv (Lib.hid (h.ext' he hrd hri (by rw [hr]; rfl))))
    (fun p e w1 hr he => herr p e w1 (h.eq.trans (by rw [hr]; rfl)) (h.ext.trans he))
theorem St.callX {A : Res β} {k : β → List Tok → Res α} {P : Program} {f : FuncId} {args : Array Value} {rep : β → World → Value → Prop} {R : Ending → World → Prop}
    (h : St rb w0 p0 (A.bind k) ts own w) (hc : Calls P f args w (Post rb w A rep))
    (hok : ∀ a ts1 v w1, Hid (A = .ok a ts1) → rep a w1 v → Hid (Ext rb w w1) → Hid (St rb w0 p0 (k a ts1) ts1 own w1) → R (.returned v) w1)
    (herr : ∀ p e w1, p0 = .err p e → Ext rb w0 w1 → R (failE p e) w1) : Calls P f args w R :=
  Post.step hc (fun a ts1 v w1 hr hv he hrd hri => hok a ts1 v w1 (Lib.hid hr) hv (Lib.hid he) (Lib.hid (h.ext' he hrd hri (by rw [hr]; rfl))))
    (fun p e w1 hr he => herr p e w1 (h.eq.trans (by rw [hr]; rfl)) (h.ext.trans he))
theorem St.fail {er : Int} {R : Ending → World → Prop} (h : St rb w0 p0 (.err (hd ts).pos er) ts own w) (herr : ∀ p e w1, p0 = .err p e → Ext rb w0 w1 → R (failE p e) w1) :
    Calls Tryz.prog 94 #[.pointer (some ⟨rb, 0, none⟩), .int .i64 er] w R := by
  obtain ⟨t, l, rfl⟩ := h.right.cons
  exact (fail_any er h.rd).mono fun e w' ⟨he, hb⟩ => by rw [he]; exact herr _ _ _ h.eq (h.ext.trans (Ext.of_below hb))
theorem St.next {R : Ending → World → Prop} (h : St rb w0 p0 p ts own w) (hok : ∀ w1, Hid (St rb w0 p0 p ts own w1) → R (.returned (.agg #[.int .i64 (hd ts).kind, .string (hd ts).text, .int .i64 (hd ts).pos])) w1) :
    Calls Tryz.prog 93 #[.pointer (some ⟨rb, 0, none⟩)] w R := by
  obtain ⟨t, l, rfl⟩ := h.right.cons
  exact (next_any h.rd).mono fun e w' ⟨he, hb⟩ => by rw [he]; exact hok _ (Lib.hid (h.below hb))
theorem St.is {R : Ending → World → Prop} (kd : Int) (s : ByteArray) (h : St rb w0 p0 p ts own w) (hok : ∀ w1, Hid (St rb w0 p0 p ts own w1) → R (.returned (.bool (tokIs (hd ts) kd s))) w1) :
    Calls Tryz.prog 245 #[.pointer (some ⟨rb, 0, none⟩), .int .i64 kd, .string s] w R := by
  obtain ⟨t, l, rfl⟩ := h.right.cons
  exact (is_any kd s h.rd).mono fun e w' ⟨he, hb⟩ => by rw [he]; exact hok _ (Lib.hid (h.below hb))
theorem St.pass {R : Ending → World → Prop} (h : St rb w0 p0 p ts own w) (hk : (hd ts).kind ≠ 3) (hok : ∀ w1, Hid (St rb w0 p0 p ts.tail own w1) → R (.returned (.agg #[.int .i64 (hd ts).kind, .string (hd ts).text, .int .i64 (hd ts).pos])) w1) :
    Calls Tryz.prog 97 #[.pointer (some ⟨rb, 0, none⟩)] w R := by
  obtain ⟨t, l, rfl⟩ := h.right.cons
  exact Post.step (pass_any h.rd h.right hk) (fun a ts1 v w1 hr hv he hrd hri => by cases hr; rw [show v = _ from hv]; exact hok w1 (Lib.hid (h.ext' he hrd hri rfl)))
    (fun p e w1 hr he => absurd hr (by simp))
theorem St.number {k : ByteArray → List Tok → Res α} {R : Ending → World → Prop} (h : St rb w0 p0 ((numberP ts).bind k) ts own w)
    (hok : ∀ w1, Hid ((hd ts).kind = 1) → Hid (St rb w0 p0 (k (hd ts).text ts) ts own w1) → R (.returned (.string (hd ts).text)) w1)
    (herr : ∀ p e w1, p0 = .err p e → Ext rb w0 w1 → R (failE p e) w1) : Calls Tryz.prog 265 #[.pointer (some ⟨rb, 0, none⟩)] w R :=
  h.call (number_any h.rd h.right) (fun a ts1 v w1 hr hv hs => by
    obtain ⟨rfl, rfl, hk⟩ := numberP_ok hr.out
    rw [show v = _ from hv]
    exact hok w1 (Lib.hid hk) hs) herr
theorem St.must {er : Int} {k : Unit → List Tok → Res α} {R : Ending → World → Prop} (h : St rb w0 p0 ((mustP er ts).bind k) ts own w)
    (hok : ∀ w1, Hid (er = 0) → Hid (St rb w0 p0 (k () ts) ts own w1) → R (.returned (.tuple #[])) w1)
    (herr : ∀ p e w1, p0 = .err p e → Ext rb w0 w1 → R (failE p e) w1) : Calls Tryz.prog 267 #[.pointer (some ⟨rb, 0, none⟩), .int .i64 er] w R :=
  h.call (must_any er h.rd h.right) (fun a ts1 v w1 hr hv hs => by
    have hr := hr.out
    unfold mustP at hr
    split at hr
    · rename_i h0
      cases hr
      rw [show v = _ from hv]
      exact hok w1 (Lib.hid h0) hs
    · split at hr <;> cases hr) herr

theorem strRow_alloc (w : World) (ws : List ByteArray) : strRow (w.alloc (.cells (ws.map Value.string).toArray 9)) w.heap.size ws := fun k hk => by
  rw [World.cell?_alloc_new]
  simp [List.getD, hk]
theorem wordP_mem {ws : List ByteArray} {ts : List Tok} {s : ByteArray} {ts' : List Tok} (h : wordP ws ts = .ok s ts') : (s ∈ ws ∧ ts' = ts.tail) ∨ (s = ⟨#[]⟩ ∧ ts' = ts) := by
  unfold wordP at h
  split at h
  · rename_i s' hf
    cases h
    exact Or.inl ⟨List.mem_of_find?_eq_some hf, rfl⟩
  · cases h; exact Or.inr ⟨rfl, rfl⟩
theorem needP_mem {ws : List ByteArray} {ts : List Tok} {s : ByteArray} {ts' : List Tok} (h : needP ws ts = .ok s ts') : s ∈ ws := by
  unfold needP at h
  cases hw : wordP ws ts with
  | err p e => rw [hw] at h; cases h
  | ok a ts1 =>
    rw [hw, Res.bind_ok] at h
    split at h
    · cases h
    · rename_i hz
      cases h
      rcases wordP_mem hw with h | h
      · exact h.1
      · rw [h.1] at hz; exact absurd (by rw [ByteArray.toList_eq]; rfl) hz
/-- The call of word on a row of words that was just made. -/
theorem St.word (ws : List ByteArray) {n : Nat} (hn : ws.length = n) (hn' : n < 1000) {k : ByteArray → List Tok → Res α} {R : Ending → World → Prop} (h : St rb w0 p0 ((wordP ws ts).bind k) ts own w) {b : Nat} (hb : w.heap.size = b)
    (hok : ∀ s ts1 w1, (s ∈ ws ∨ s = ⟨#[]⟩) → Hid (St rb w0 p0 (k s ts1) ts1 own w1) → R (.returned (.string s)) w1)
    (herr : ∀ p e w1, p0 = .err p e → Ext rb w0 w1 → R (failE p e) w1) : Calls Tryz.prog 186 #[.pointer (some ⟨rb, 0, none⟩), .slice (some ⟨b, 0, none⟩) n n] (w.alloc (.cells (ws.map Value.string).toArray 9)) R := by
  subst hn hb
  have h1 := h.skip (.cells (ws.map Value.string).toArray 9)
  exact h1.call (word_any h1.rd h1.right (by simp) (strRow_alloc w ws) hn') (fun a ts1 v w1 hr hv hs => by
    rw [show v = _ from hv]
    exact hok a ts1 w1 ((wordP_mem hr.out).imp And.left And.left) hs) herr
/-- The call of need on a row of words that was just made. -/
theorem St.need (ws : List ByteArray) {n : Nat} (hn : ws.length = n) (hn' : n < 1000) {k : ByteArray → List Tok → Res α} {R : Ending → World → Prop} (h : St rb w0 p0 ((needP ws ts).bind k) ts own w) {b : Nat} (hb : w.heap.size = b)
    (hok : ∀ s ts1 w1, s ∈ ws → Hid (St rb w0 p0 (k s ts1) ts1 own w1) → R (.returned (.string s)) w1)
    (herr : ∀ p e w1, p0 = .err p e → Ext rb w0 w1 → R (failE p e) w1) : Calls Tryz.prog 185 #[.pointer (some ⟨rb, 0, none⟩), .slice (some ⟨b, 0, none⟩) n n] (w.alloc (.cells (ws.map Value.string).toArray 9)) R := by
  subst hn hb
  have h1 := h.skip (.cells (ws.map Value.string).toArray 9)
  exact h1.call (need_any h1.rd h1.right (by simp) (strRow_alloc w ws) hn') (fun a ts1 v w1 hr hv hs => by
    rw [show v = _ from hv]
    exact hok a ts1 w1 (needP_mem hr.out) hs) herr
theorem St.done {a : α} {rep : α → World → Value → Prop} {v : Value} (h : St rb w0 p0 (.ok a ts) ts own w) (hv : rep a w v) : Post rb w0 p0 rep (.returned v) w :=
  Post.mkOk h.eq hv h.ext h.rd h.right
end

/-- One result, out of a variable's cells. -/
theorem ret_cells {P : Program} {f : Func} {a : Act} {w : World} {R : Ending → World → Prop} (k t : Nat) (d : TypeDesc) (b : Nat) (cs : List Value) (hf : f.results = #[.cell k t]) (hk : a.tmps.getD k undef = .pointer (some ⟨b, 0, none⟩))
    (hc : w.rangeAt b 0 cs) (hu : P.underlying t = some d) (hd : d.isRow = true) (hi : (P.info? t).map (·.size) = some cs.length) (hdef : a.defers = []) (hR : R (.returned (.agg cs.toArray)) w) : bodyPost P f R .ret a w := by
  refine bodyPost_ret ?_ hdef hR
  have h1 : (asAddr (.pointer (some ⟨b, 0, none⟩))).run P w = .ok ⟨b, 0, none⟩ w := rfl
  have hk' : a.tmps[k]?.getD undef = .pointer (some ⟨b, 0, none⟩) := by simpa using hk
  simp [results, hf, hk', Sem.run_bind, h1, run_loadVar_mid w b 0 t cs d hc hu hd hi, Result.andThen]


theorem wpList_store_new {P : Program} {ops : Array Oper} {rest : List Oper} {op : Oper} {a : Act} {Q : Exit → Act → World → Prop} (hgd : op.guard = none) (ty : TypeId) (x y : Operand) (ho : op.op = .store ty x y)
    (w : World) (c c' : Array Value) (hx : a.eval x = .pointer (some ⟨w.heap.size, 0, none⟩)) (hy : a.eval y = .agg c') (hc : c.size = c'.size)
    (hi : (P.info? ty).map (·.size) = some c'.size) (h1 : c'.all (·.oneCell') = true)
    (h : wpList P ops Q rest (a.put op.dst undef) (w.alloc (.cells c' ty))) : wpList P ops Q (op :: rest) a (w.alloc (.cells c ty)) :=
  wpList_plain hgd fun _ hK => by
    unfold Oper.wp execOp
    simp only [ho, hx, hy, run_storeAt_new w ty c c' hi hc h1, Sem.run_bind, Sem.run_pure, Result.andThen_ok]
    exact hK _ _ h

theorem wpList_store_own {P : Program} {ops : Array Oper} {rest : List Oper} {op : Oper} {a : Act} {w : World} {Q : Exit → Act → World → Prop} {b : Nat} {vs : List Value} (hw : Own w b vs) (hgd : op.guard = none) (ty : TypeId) (x y : Operand) (ho : op.op = .store ty x y)
    (cs : List Value) (hx : a.eval x = .pointer (some ⟨b, 0, none⟩)) (hy : a.eval y = .agg cs.toArray) (hl : cs.length = vs.length)
    (hi : (P.info? ty).map (·.size) = some cs.length) (h1 : cs.all (·.oneCell') = true)
    (h : wpList P ops Q rest (a.put op.dst undef) (w.setCells b 0 cs)) : wpList P ops Q (op :: rest) a w :=
  wpList_store_mid hgd ty x y ho b 0 cs.toArray hx hy (by rw [List.size_toArray, hl]; exact hw.may) (by simpa using hi) (by simpa using h1) h
theorem wpList_store_fresh {P : Program} {ops : Array Oper} {rest : List Oper} {op : Oper} {a : Act} {Q : Exit → Act → World → Prop} (hgd : op.guard = none) (ty : TypeId) (x y : Operand) (ho : op.op = .store ty x y)
    (w : World) (c cs : List Value) (hx : a.eval x = .pointer (some ⟨w.heap.size, 0, none⟩)) (hy : a.eval y = .agg cs.toArray) (hl : c.length = cs.length)
    (hi : (P.info? ty).map (·.size) = some cs.length) (h1 : cs.all (·.oneCell') = true)
    (h : wpList P ops Q rest (a.put op.dst undef) (w.alloc (.cells cs.toArray ty))) : wpList P ops Q (op :: rest) a (w.alloc (.cells c.toArray ty)) :=
  wpList_store_new hgd ty x y ho w _ _ hx hy (by simpa using hl) (by simpa using hi) (by simpa using h1) h
theorem wpList_load_own {P : Program} {ops : Array Oper} {rest : List Oper} {op : Oper} {a : Act} {w : World} {Q : Exit → Act → World → Prop} {b : Nat} {cs : List Value} (hw : Own w b cs) (hgd : op.guard = none) (ty : TypeId) (x : Operand) (ho : op.op = .load ty x)
    (hx : a.eval x = .pointer (some ⟨b, 0, none⟩)) {d : TypeDesc} (hu : P.underlying ty = some d) (hd : d.isRow = true) (hi : (P.info? ty).map (·.size) = some cs.length)
    (h : wpList P ops Q rest (a.put op.dst (.agg cs.toArray)) w) : wpList P ops Q (op :: rest) a w :=
  wpList_load_mid hgd ty x ho b 0 hx cs d hw.range hu hd hi h
theorem ret_own {P : Program} {f : Func} {a : Act} {w : World} {R : Ending → World → Prop} {b : Nat} {cs : List Value} (hw : Own w b cs) (k t : Nat) {d : TypeDesc} (hf : f.results = #[.cell k t]) (hk : a.tmps.getD k undef = .pointer (some ⟨b, 0, none⟩))
    (hu : P.underlying t = some d) (hd : d.isRow = true) (hi : (P.info? t).map (·.size) = some cs.length) (hdef : a.defers = []) (hR : R (.returned (.agg cs.toArray)) w) : bodyPost P f R .ret a w :=
  ret_cells k t d b cs hf hk hw.range hu hd hi hdef hR
/-- A store of a whole variable into one's own block, the operation written out. -/
theorem wpl_store {ty : TypeId} {P : Program} {ops : Array Oper} {rest : List Oper} {dst : Option Tmp} {x y : Operand} {t : TypeId} {pos : String} {after : Array Edge} {a : Act} {w : World} {Q : Exit → Act → World → Prop} {b : Nat} {vs cs : List Value} (hw : Own w b vs)
    (hx : a.eval x = .pointer (some ⟨b, 0, none⟩)) (hy : a.eval y = .agg cs.toArray) (hl : cs.length = vs.length)
    (hi : (P.info? ty).map (·.size) = some cs.length) (h1 : cs.all (·.oneCell') = true)
    (h : wpList P ops Q rest (a.put dst undef) (w.setCells b 0 cs)) : wpList P ops Q ({ dst := dst, op := .store ty x y, type := t, pos := pos, after := after, guard := none } :: rest) a w :=
  wpList_store_own hw rfl ty x y rfl cs hx hy hl hi h1 h
/-- A store of a whole variable into the block that was made last, the operation written out. -/
theorem wpl_fresh {ty : TypeId} {P : Program} {ops : Array Oper} {rest : List Oper} {dst : Option Tmp} {x y : Operand} {t : TypeId} {pos : String} {after : Array Edge} {a : Act} {w : World} {Q : Exit → Act → World → Prop} {c cs : List Value}
    (hx : a.eval x = .pointer (some ⟨w.heap.size, 0, none⟩)) (hy : a.eval y = .agg cs.toArray) (hl : c.length = cs.length)
    (hi : (P.info? ty).map (·.size) = some cs.length) (h1 : cs.all (·.oneCell') = true)
    (h : wpList P ops Q rest (a.put dst undef) (w.alloc (.cells cs.toArray ty))) : wpList P ops Q ({ dst := dst, op := .store ty x y, type := t, pos := pos, after := after, guard := none } :: rest) a (w.alloc (.cells c.toArray ty)) :=
  wpList_store_fresh rfl ty x y rfl w c cs hx hy hl hi h1 h
/-- A load of a whole variable out of one's own block, the operation written out. -/
theorem wpl_load {ty : TypeId} {P : Program} {ops : Array Oper} {rest : List Oper} {dst : Option Tmp} {x : Operand} {t : TypeId} {pos : String} {after : Array Edge} {a : Act} {w : World} {Q : Exit → Act → World → Prop} {b : Nat} {cs : List Value} (hw : Own w b cs)
    (hx : a.eval x = .pointer (some ⟨b, 0, none⟩)) {d : TypeDesc} (hu : P.underlying ty = some d) (hd : d.isRow = true) (hi : (P.info? ty).map (·.size) = some cs.length)
    (h : wpList P ops Q rest (a.put dst (.agg cs.toArray)) w) : wpList P ops Q ({ dst := dst, op := .load ty x, type := t, pos := pos, after := after, guard := none } :: rest) a w :=
  wpList_load_own hw rfl ty x rfl hx hu hd hi h
/-- The list begins with a store of a variable of this type. -/
theorem at_st {ty : TypeId} {P : Program} {ops : Array Oper} {rest : List Oper} {dst : Option Tmp} {x y : Operand} {t : TypeId} {pos : String} {after : Array Edge} {a : Act} {w : World} {Q : Exit → Act → World → Prop}
    (h : wpList P ops Q ({ dst := dst, op := .store ty x y, type := t, pos := pos, after := after, guard := none } :: rest) a w) : wpList P ops Q ({ dst := dst, op := .store ty x y, type := t, pos := pos, after := after, guard := none } :: rest) a w := h
/-- The list begins with a load of a variable of this type. -/
theorem at_ld {ty : TypeId} {P : Program} {ops : Array Oper} {rest : List Oper} {dst : Option Tmp} {x : Operand} {t : TypeId} {pos : String} {after : Array Edge} {a : Act} {w : World} {Q : Exit → Act → World → Prop}
    (h : wpList P ops Q ({ dst := dst, op := .load ty x, type := t, pos := pos, after := after, guard := none } :: rest) a w) : wpList P ops Q ({ dst := dst, op := .load ty x, type := t, pos := pos, after := after, guard := none } :: rest) a w := h
theorem size29 : (Tryz.prog.info? 29).map (·.size) = some 19 := by kernel_rfl
theorem size26 : (Tryz.prog.info? 26).map (·.size) = some 7 := by kernel_rfl
theorem size68 : (Tryz.prog.info? 68).map (·.size) = some 4 := by kernel_rfl
end Go.Proofs.YtjojihadnplllaaGreatDoor
