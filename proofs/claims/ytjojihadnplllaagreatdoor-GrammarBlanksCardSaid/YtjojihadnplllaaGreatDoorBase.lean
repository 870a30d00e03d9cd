/- The words in which the contracts of this claim are stated: tokens, a reader of tokens in memory, how a world goes on, and how a call of a reader's method ends. -/
import Derived.Test.YtjojihadnplllaaGreatDoorProg
import Derived.WalkKit
import Derived.WalkSpells
import Derived.WalkLawsBesides
import Derived.Lib.Hide
import Derived.Lib.Strings
import Derived.Lib.Space
import Derived.Lib.LaidTab
namespace Go.Proofs.YtjojihadnplllaaGreatDoor
open Go.RowKit

/-- A token. -/
structure Tok where
  kind : Int
  text : ByteArray
  pos : Int
  deriving DecidableEq, Inhabited

/-- How reading goes on: a result and the tokens that are left, or an offset and an error. -/
inductive Res (α : Type) where
  | ok (a : α) (ts : List Tok)
  | err (p e : Int)

def Res.bind {α β : Type} (r : Res α) (f : α → List Tok → Res β) : Res β :=
  match r with
  | .ok a ts => f a ts
  | .err p e => .err p e

theorem Res.bind_ok {α β : Type} (a : α) (ts : List Tok) (f : α → List Tok → Res β) : (Res.ok a ts).bind f = f a ts := rfl
theorem Res.bind_err {α β : Type} (p e : Int) (f : α → List Tok → Res β) : (Res.err p e : Res α).bind f = .err p e := rfl

def hd (ts : List Tok) : Tok := ts.headD default

/-- The tokens end with the only end; their texts are short. -/
def Right (ts : List Tok) : Prop := (∃ l e, ts = l ++ [e] ∧ e.kind = 3 ∧ ∀ t ∈ l, t.kind ≠ 3) ∧ (∀ t ∈ ts, t.text.size ≤ 4096) ∧ ts.length ≤ 1000

/-- What the package-level variables of Go's library hold. -/
structure Laid (w : World) : Prop where
  size : 12 ≤ w.heap.size
  maxLen : ∃ m, w.cell? ⟨2, 0, none⟩ = some (.int .i64 m)
  errSyntax : ∃ tp p, World.var? Tryz.prog w "strconv.ErrSyntax" = some #[.iface tp p]
  errRange : ∃ tp p, World.var? Tryz.prog w "strconv.ErrRange" = some #[.iface tp p]
  space : Lib.TabIs Tryz.prog w "strings.asciiSpace" IntKind.u8 Lib.asciiSpaceTab

theorem globalErrSyntax : Tryz.prog.globalNamed "strconv.ErrSyntax" = some 6 := by kernel_rfl
theorem globalErrRange : Tryz.prog.globalNamed "strconv.ErrRange" = some 7 := by kernel_rfl
theorem globalSpace : Tryz.prog.globalNamed "strings.asciiSpace" = some 0 := by kernel_rfl

theorem Laid.below {w w' : World} (h : Laid w) (hb : Below 12 w w') : Laid w' := by
  obtain ⟨h0, ⟨m, h1⟩, ⟨t2, p2, h2⟩, ⟨t3, p3, h3⟩, h4⟩ := h
  refine ⟨Nat.le_trans h0 hb.size, ⟨m, ?_⟩, ⟨t2, p2, ?_⟩, ⟨t3, p3, ?_⟩, ?_⟩
  · rw [hb.cell (p := ⟨2, 0, none⟩) (by decide)]; exact h1
  · exact var?_below hb globalErrSyntax (by decide) h2
  · exact var?_below hb globalErrRange (by decide) h3
  · exact var?_below hb globalSpace (by decide) h4

/-- One token's three cells. -/
def tokAt (w : World) (b o : Nat) (t : Tok) : Prop :=
  w.cell? ⟨b, o, none⟩ = some (.int .i64 t.kind) ∧ w.cell? ⟨b, o + 1, none⟩ = some (.string t.text) ∧ w.cell? ⟨b, o + 2, none⟩ = some (.int .i64 t.pos)

def tokRow (w : World) (b : Nat) : Nat → List Tok → Prop
  | _, [] => True
  | o, t :: ts => tokAt w b o t ∧ tokRow w b (o + 3) ts

/-- The reader in block rb has these tokens before it. -/
def Rd (w : World) (rb : Nat) (ts : List Tok) : Prop :=
  Laid w ∧ 12 ≤ rb ∧ rb < w.heap.size ∧ w.frozen? ⟨rb, 0, none⟩ = false ∧ ∃ b o c, b < rb ∧ ts.length ≤ c ∧
    w.cell? ⟨rb, 0, none⟩ = some (.slice (some ⟨b, o, none⟩) ts.length c) ∧ tokRow w b o ts

/-- The world has gone on: of what was there only block rb may have turned. -/
structure Ext (rb : Nat) (w w' : World) : Prop where
  os : w'.os = w.os
  tape : w'.tape = w.tape
  output : w'.output = w.output
  size : w.heap.size ≤ w'.heap.size
  block : ∀ k, k < w.heap.size → k ≠ rb → w'.heap[k]? = w.heap[k]?

theorem Ext.refl (rb : Nat) (w : World) : Ext rb w w := ⟨rfl, rfl, rfl, Nat.le_refl _, fun _ _ _ => rfl⟩
theorem Ext.trans {rb : Nat} {a b c : World} (h : Ext rb a b) (k : Ext rb b c) : Ext rb a c :=
  ⟨k.os.trans h.os, k.tape.trans h.tape, k.output.trans h.output, Nat.le_trans h.size k.size,
    fun i hi hr => (k.block i (Nat.lt_of_lt_of_le hi h.size) hr).trans (h.block i hi hr)⟩
theorem Ext.of_below {rb : Nat} {w w' : World} (h : Below w.heap.size w w') : Ext rb w w' :=
  ⟨h.os, h.tape, h.output, h.size, fun k hk _ => h.block k hk⟩
theorem Ext.below {rb B : Nat} {w w' : World} (h : Ext rb w w') (hB : B ≤ rb) (hs : B ≤ w.heap.size) : Below B w w' :=
  ⟨h.os, h.tape, h.output, h.size, fun k hk => h.block k (by omega) (by omega)⟩
theorem Ext.alloc {rb : Nat} {a w : World} (h : Ext rb a w) (o : Obj) : Ext rb a (w.alloc o) :=
  h.trans (Ext.of_below ((Below.refl _ _).alloc (Nat.le_refl _) _))
theorem Ext.drew {rb : Nat} {a w : World} (h : Ext rb a w) : Ext rb a w.drew :=
  h.trans (Ext.of_below (Below.refl _ _).drew)
theorem Ext.setCell {rb : Nat} {a w : World} (h : Ext rb a w) {p : Addr} (hp : p.block = rb ∨ a.heap.size ≤ p.block) (u : Value) : Ext rb a (w.setCell p u) :=
  ⟨h.os, h.tape, h.output, by simpa [World.setCell] using h.size, fun k hk hr => by
    rw [Below.heap_setCell _ _ _ _ (by rcases hp with hp | hp <;> omega)]; exact h.block k hk hr⟩
theorem Ext.cell {rb : Nat} {w w' : World} (h : Ext rb w w') {p : Addr} (hp : p.block < w.heap.size) (hr : p.block ≠ rb) : w'.cell? p = w.cell? p :=
  World.cell?_of_block (w := w) (h.block p.block hp hr)
theorem Ext.frozen {rb : Nat} {w w' : World} (h : Ext rb w w') {p : Addr} (hp : p.block < w.heap.size) (hr : p.block ≠ rb) : w'.frozen? p = w.frozen? p :=
  World.frozen?_of_block (w := w) (h.block p.block hp hr)

theorem tokRow.keep {w w' : World} {b : Nat} (h : w'.heap[b]? = w.heap[b]?) : ∀ (ts : List Tok) (o : Nat), tokRow w b o ts → tokRow w' b o ts
  | [], _, _ => trivial
  | t :: ts, o, ⟨h1, h2⟩ => by
    have hc : ∀ i, w'.cell? ⟨b, i, none⟩ = w.cell? ⟨b, i, none⟩ := fun i => World.cell?_of_block (w := w) h
    refine ⟨⟨?_, ?_, ?_⟩, tokRow.keep h ts _ h2⟩
    · rw [hc]; exact h1.1
    · rw [hc]; exact h1.2.1
    · rw [hc]; exact h1.2.2

/-- A world that has turned nothing keeps the reader. -/
theorem Rd.below {w w' : World} {rb : Nat} {ts : List Tok} (h : Rd w rb ts) (hb : Below w.heap.size w w') : Rd w' rb ts := by
  obtain ⟨h8, h9, h1, h2, b, o, c, h3, h5, h6, h7⟩ := h
  refine ⟨h8.below (hb.mono h8.size), h9, Nat.lt_of_lt_of_le h1 hb.size, ?_, b, o, c, h3, h5, ?_, tokRow.keep (hb.block b (by omega)) ts o h7⟩
  · rw [hb.frozen (p := ⟨rb, 0, none⟩) h1]; exact h2
  · rw [hb.cell (p := ⟨rb, 0, none⟩) h1]; exact h6

theorem Rd.belowN {w w' : World} {rb N : Nat} {ts : List Tok} (h : Rd w rb ts) (hN : rb < N) (hb : Below N w w') : Rd w' rb ts := by
  obtain ⟨h8, h9, h1, h2, b, o, c, h3, h5, h6, h7⟩ := h
  refine ⟨h8.below (hb.mono (by omega)), h9, Nat.lt_of_lt_of_le h1 hb.size, ?_, b, o, c, h3, h5, ?_, tokRow.keep (hb.block b (by omega)) ts o h7⟩
  · rw [hb.frozen (p := ⟨rb, 0, none⟩) hN]; exact h2
  · rw [hb.cell (p := ⟨rb, 0, none⟩) hN]; exact h6

/-- A store behind the reader's block keeps the reader. -/
theorem Rd.other {w : World} {rb : Nat} {ts : List Tok} (h : Rd w rb ts) {p : Addr} (hp : rb < p.block) (v : Value) : Rd (w.setCell p v) rb ts := by
  obtain ⟨h8, h9, h1, h2, b, o, c, h3, h5, h6, h7⟩ := h
  have hk : ∀ k, k ≤ rb → (w.setCell p v).heap[k]? = w.heap[k]? := fun k hk => by rw [Below.heap_setCell _ _ _ _ (by omega)]
  have he : Ext p.block w (w.setCell p v) := (Ext.refl _ _).setCell (Or.inl rfl) v
  refine ⟨h8.below (he.below (by omega) h8.size), h9, by simpa [World.setCell] using h1, ?_, b, o, c, h3, h5, ?_, tokRow.keep (hk b (by omega)) ts o h7⟩
  · rw [he.frozen (p := ⟨rb, 0, none⟩) h1 (by show rb ≠ _; omega)]; exact h2
  · rw [he.cell (p := ⟨rb, 0, none⟩) h1 (by show rb ≠ _; omega)]; exact h6

/-- The panic by which reading fails. -/
def failE (p e : Int) : Ending := .panicked [{ v := .iface 145 (.agg #[.int .i64 p, .int .i64 e]), recovered := false }]

/-- How a call of a reader's method ends. -/
def Post {α : Type} (rb : Nat) (w : World) (r : Res α) (rep : α → World → Value → Prop) (e : Ending) (w' : World) : Prop :=
  match r with
  | .ok a ts => ∃ v, e = .returned v ∧ rep a w' v ∧ Ext rb w w' ∧ Rd w' rb ts ∧ Right ts
  | .err p er => e = failE p er ∧ Ext rb w w'

/-- Meeting a call of a reader's method. -/
theorem Post.step {α : Type} {P : Program} {f : FuncId} {args : Array Value} {w : World} {rb : Nat} {r : Res α} {rep : α → World → Value → Prop} {R : Ending → World → Prop}
    (h : Calls P f args w (Post rb w r rep))
    (hok : ∀ a ts v w', r = .ok a ts → rep a w' v → Ext rb w w' → Rd w' rb ts → Right ts → R (.returned v) w')
    (herr : ∀ p e w', r = .err p e → Ext rb w w' → R (failE p e) w') : Calls P f args w R := by
  refine h.mono fun e w' hp => ?_
  cases r with
  | ok a ts => obtain ⟨v, rfl, h1, h2, h3, h4⟩ := hp; exact hok a ts v w' rfl h1 h2 h3 h4
  | err p er => obtain ⟨rfl, h2⟩ := hp; exact herr p er w' rfl h2

theorem Post.mkErr {α : Type} {rb : Nat} {w w' : World} {r : Res α} {rep : α → World → Value → Prop} {p e : Int} (hr : r = .err p e) (h : Ext rb w w') : Post rb w r rep (failE p e) w' := by
  subst hr; exact ⟨rfl, h⟩
theorem Post.mkOk {α : Type} {rb : Nat} {w w' : World} {r : Res α} {rep : α → World → Value → Prop} {a : α} {ts : List Tok} {v : Value} (hr : r = .ok a ts) (h1 : rep a w' v) (h2 : Ext rb w w') (h3 : Rd w' rb ts) (h4 : Right ts) : Post rb w r rep (.returned v) w' := by
  subst hr; exact ⟨v, rfl, h1, h2, h3, h4⟩

def repInt (n : Int) (_ : World) (v : Value) : Prop := v = .int .i64 n
def repStr (s : ByteArray) (_ : World) (v : Value) : Prop := v = .string s
def repBool (b : Bool) (_ : World) (v : Value) : Prop := v = .bool b
def repTok (t : Tok) (_ : World) (v : Value) : Prop := v = .agg #[.int .i64 t.kind, .string t.text, .int .i64 t.pos]
def repUnit (_ : Unit) (_ : World) (v : Value) : Prop := v = .tuple #[]

theorem Rd.laid {w : World} {rb : Nat} {ts : List Tok} (h : Rd w rb ts) : Laid w := h.1
theorem Laid.ext {w w' : World} {rb : Nat} (h : Laid w) (hr : 12 ≤ rb) (he : Ext rb w w') : Laid w' := h.below (he.below hr h.size)
theorem Right.ne_nil {ts : List Tok} (h : Right ts) : ts ≠ [] := by
  obtain ⟨⟨l, e, rfl, _⟩, _⟩ := h; simp
theorem Right.cons {ts : List Tok} (h : Right ts) : ∃ t l, ts = t :: l := by
  cases ts with
  | nil => exact absurd rfl h.ne_nil
  | cons t l => exact ⟨t, l, rfl⟩
theorem Right.short {t : Tok} {l : List Tok} (h : Right (t :: l)) : t.text.size ≤ 4096 := h.2.1 t (List.mem_cons_self ..)
/-- Behind a token that is not the end, the tokens still end with the only end. -/
theorem Right.tail {t : Tok} {l : List Tok} (h : Right (t :: l)) (ht : t.kind ≠ 3) : Right l := by
  obtain ⟨⟨l', e, h1, h2, h3⟩, h4, h5⟩ := h
  cases l' with
  | nil => simp at h1; obtain ⟨rfl, _⟩ := h1; exact absurd h2 ht
  | cons a l' =>
    simp at h1
    obtain ⟨rfl, rfl⟩ := h1
    exact ⟨⟨l', e, rfl, h2, fun t ht => h3 t (List.mem_cons_of_mem _ ht)⟩, fun t ht => h4 t (List.mem_cons_of_mem _ ht), by simp at h5 ⊢; omega⟩
theorem Right.len {t : Tok} {l : List Tok} (h : Right (t :: l)) (ht : t.kind ≠ 3) : 1 ≤ l.length := by
  have := (h.tail ht).ne_nil
  cases l with
  | nil => simp at this
  | cons a l => simp
end Go.Proofs.YtjojihadnplllaaGreatDoor
