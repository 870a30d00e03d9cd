/- The lexer's Scan: the tokens of a text. -/
import Derived.Test.YtjojihadnplllaaGreatDoorLxD
namespace Go.Proofs.YtjojihadnplllaaGreatDoor
open Go.RowKit Go Go.Shelf Go.Proofs

/-- Tokens, or an offset and an error. -/
inductive SRes where
  | ok (ts : List Tok)
  | err (p e : Int)

def scanFrom (s : ByteArray) : Nat → Nat → List Tok → SRes
  | 0, _, _ => .err 0 0
  | n + 1, k, out =>
    match tokNext s k with
    | (none, e) => .err e 4
    | (some t, e) =>
      if out.length = 256 then .err t.pos 5
      else if t.kind = 3 then .ok (out ++ [t])
      else scanFrom s n e (out ++ [t])
def scan (s : ByteArray) : SRes := if 4096 < s.size then .err 0 13 else scanFrom s 257 0 []

def tokVs (t : Tok) : List Value := [.int .i64 t.kind, .string t.text, .int .i64 t.pos]
def tokCells (ts : List Tok) : List Value := ts.flatMap tokVs

theorem tokCells_len (ts : List Tok) : (tokCells ts).length = ts.length * 3 := by
  induction ts with
  | nil => rfl
  | cons t ts ih => simp only [tokCells, List.flatMap_cons, List.length_append] at ih ⊢; rw [ih]; simp [tokVs]; omega
theorem tokCells_snoc (ts : List Tok) (t : Tok) : tokCells (ts ++ [t]) = tokCells ts ++ tokVs t := by
  simp [tokCells]

theorem ownsRow_ext {w w' : World} {R base : Nat} {e : TypeId} {size n : Nat} {v : Value} {xs : List Value} (h : w.ownsRow base e size v n xs) (he : Ext R w w') (hR : R < base) : w'.ownsRow base e size v n xs := by
  refine ⟨h.1, ?_⟩
  rcases h.2 with h0 | ⟨g, cap, cur, hv, hg, hh, r⟩
  · exact Or.inl h0
  · refine Or.inr ⟨g, cap, cur, hv, hg, ?_, r⟩
    have hgs : g < w.heap.size := by
      rcases Nat.lt_or_ge g w.heap.size with h1 | h1
      · exact h1
      · have : w.heap[g]? = none := Array.getElem?_eq_none h1
        rw [this] at hh; cases hh
    rw [he.block g hgs (by omega)]; exact hh

/-- The tokens' cells in a row. -/
theorem tokRow_of (w : World) (g : Nat) (cur : Array Value) (e : TypeId) (hh : w.heap[g]? = some (.cells cur e (0, 0))) :
    ∀ (ts : List Tok) (o : Nat) , (cur.toList.drop o).take (ts.length * 3) = tokCells ts → tokRow w g o ts
  | [], _, _ => trivial
  | t :: ts, o, h => by
    have hc : ∀ i, w.cell? ⟨g, i, none⟩ = cur[i]? := fun i => by simp [World.cell?, hh]
    have hcell : tokCells (t :: ts) = tokVs t ++ tokCells ts := by simp [tokCells]
    rw [hcell] at h
    have hget : ∀ i, i < 3 → cur[o + i]? = (tokVs t)[i]? := fun i hi => by
      have := congrArg (fun l => l[i]?) h
      simp only [List.getElem?_take, List.getElem?_drop] at this
      rw [if_pos (by simp; omega)] at this
      rw [List.getElem?_append_left (by simp [tokVs]; omega)] at this
      rw [← this]; simp
    refine ⟨⟨?_, ?_, ?_⟩, tokRow_of w g cur e hh ts (o + 3) ?_⟩
    · rw [hc]; exact hget 0 (by omega)
    · rw [hc]; exact hget 1 (by omega)
    · rw [hc]; exact hget 2 (by omega)
    · have := congrArg (List.drop 3) h
      rw [List.drop_take, List.drop_drop] at this
      have e3 : (t :: ts).length * 3 - 3 = ts.length * 3 := by simp; omega
      rw [e3] at this
      rw [this]; rfl

theorem info136 : (Tryz.prog.info? 136).map (fun i => (i.zero, i.size, i.bytes)) = some (some (.agg #[.int .i64 0, .string ⟨#[]⟩, .int .i64 0]), 3, 32) := by kernel_rfl

/-- How Scan ends. -/
def ScanPost (s : ByteArray) (w : World) (e : Ending) (w' : World) : Prop :=
  match scan s with
  | .ok ts => ∃ b c, e = .returned (.tuple #[.slice (some ⟨b, 0, none⟩) ts.length c, .int .i64 0, .int .i64 0]) ∧ w.heap.size ≤ b ∧ b < w'.heap.size ∧ ts.length ≤ c ∧ tokRow w' b 0 ts ∧ Below w.heap.size w w'
  | .err p er => e = .returned (.tuple #[.slice none 0 0, .int .i64 p, .int .i64 er]) ∧ Below w.heap.size w w'
theorem ScanPost.mkErr {s : ByteArray} {w w' : World} {p er : Int} (h : scan s = .err p er) (hb : Below w.heap.size w w') : ScanPost s w (.returned (.tuple #[.slice none 0 0, .int .i64 p, .int .i64 er])) w' := by
  unfold ScanPost; rw [h]; exact ⟨rfl, hb⟩

set_option maxRecDepth 100000 in
set_option maxHeartbeats 4000000 in
theorem scan_any (s : ByteArray) (w : World) (hmax : s.size ≤ 9223372036854775807) : Calls Tryz.prog 91 #[.string s] w (ScanPost s w) := by
  by_cases hbig : 4096 < s.size
  · have HS := Lib.hid (show scan s = .err 0 13 from if_pos hbig)
    go_enter Tryz.func91, Tryz.ntmps91
    go_wp2_with fail
    go_ret3
    exact ScanPost.mkErr HS.out (Below.refl _ _)
  · have HS := Lib.hid (show scan s = scanFrom s 257 0 [] from if_neg hbig)
    have hs : s.size ≤ 4096 := by omega
    clear hmax
    obtain ⟨i0, hi, hz0, hz1, hz2⟩ := info_parts info136
    go_enter Tryz.func91, Tryz.ntmps91
    go_wp2_with fail
    go_loopg [6] 257 (fun gf v wr => ∃ (k : Nat) (out : List Tok), Hid (out.length + gf = 257) ∧ Hid (1 ≤ gf) ∧ Hid (wr.ownsRow (w.heap.size + 1) 136 3 v out.length (tokCells out)) ∧ Hid (LR wr w.heap.size s k) ∧ Hid (Below w.heap.size w wr) ∧ Hid (scan s = scanFrom s gf k out))
    case atStart =>
      exact ⟨0, [], Lib.hid rfl, Lib.hid (by omega), Lib.hid (World.ownsRow_nil _ _ _ _), Lib.hid ⟨by simp, by go_simp, by go_simp, by go_simp, by omega, hs⟩, Lib.hid ((Below.refl _ _).alloc (Nat.le_refl _) _), HS⟩
    case round =>
      obtain ⟨k, out, hlen, hge, HO, HL, HB, HSC⟩ := hrel
      obtain ⟨x, cap, rfl⟩ : ∃ x cap, u6 = .slice x out.length cap := by
        rcases HO.out.2 with ⟨h1, h2⟩ | ⟨g, cap, cur, h1, _⟩
        · exact ⟨none, 0, by rw [h1, h2]⟩
        · exact ⟨_, _, h1⟩
      obtain ⟨gf, rfl⟩ : ∃ gf, gk = gf + 1 := ⟨gk - 1, by have := hge.out; omega⟩
      have hol : out.length ≤ 256 := by have := hlen.out; omega
      obtain ⟨⟨o, e⟩, ht⟩ : ∃ x, tokNext s k = x := ⟨_, rfl⟩
      have HT := Lib.hid ht
      cases o with
      | none =>
        have HR := Lib.hid (show scan s = .err e 4 by rw [HSC.out, scanFrom, ht])
        clear ht
        go_wp2_with fail
        refine (token_any HL.out).mono ?_
        rintro e' w1 ⟨rfl, hl1, he1⟩
        rw [HT.out] at hl1 ⊢
        simp only [optV, Option.isSome_none]
        unfold zeroTok
        have e1 := hl1.2.2.1
        have hsz : w.heap.size < w1.heap.size := hl1.1
        have HE1 := Lib.hid (HB.out.trans (he1.below (B := w.heap.size) (Nat.le_refl _) HB.out.size))
        clear hl1 he1
        go_wp2_with fail
        have hb2 : Below w1.heap.size w1 (w1.alloc (Obj.cells #[Value.int IntKind.i64 0, Value.string ⟨#[]⟩, Value.int IntKind.i64 0] 136)) := (Below.refl _ _).alloc (Nat.le_refl _) _
        have e2 := (hb2.cell (p := ⟨w.heap.size, 1, none⟩) hsz).trans e1
        have HE2 := Lib.hid (HE1.out.trans (hb2.mono HE1.out.size))
        clear hb2 e1
        generalize w1.alloc (Obj.cells #[Value.int IntKind.i64 0, Value.string ⟨#[]⟩, Value.int IntKind.i64 0] 136) = w2 at *
        generalize w1.heap.size = U at *
        go_quiet (fail)
        go_wp2_with fail
        go_ret3
        exact ScanPost.mkErr HR.out (HE2.out.trans (below_drewN _ _))
      | some t =>
        obtain ⟨tk, tt, tp⟩ := t
        by_cases h256 : out.length = 256
        · have HR := Lib.hid (show scan s = .err tp 5 by rw [HSC.out, scanFrom, ht]; exact if_pos h256)
          have hq : ((out.length : Int) == 256) = true := by rw [h256]; rfl
          clear ht h256
          go_wp2_with fail
          refine (token_any HL.out).mono ?_
          rintro e' w1 ⟨rfl, hl1, he1⟩
          rw [HT.out] at hl1 ⊢
          simp only [optV, Option.isSome_some]
          have hsz : w.heap.size < w1.heap.size := hl1.1
          have HE1 := Lib.hid (HB.out.trans (he1.below (B := w.heap.size) (Nat.le_refl _) HB.out.size))
          clear hl1 he1
          go_wp2_with fail
          have hb2 : Below w1.heap.size w1 (w1.alloc (Obj.cells #[Value.int IntKind.i64 tk, Value.string tt, Value.int IntKind.i64 tp] 136)) := (Below.refl _ _).alloc (Nat.le_refl _) _
          have p0 : (w1.alloc (Obj.cells #[Value.int IntKind.i64 tk, Value.string tt, Value.int IntKind.i64 tp] 136)).cell? ⟨w1.heap.size, 0, none⟩ = some (.int .i64 tk) := by go_simp
          have p1 : (w1.alloc (Obj.cells #[Value.int IntKind.i64 tk, Value.string tt, Value.int IntKind.i64 tp] 136)).cell? ⟨w1.heap.size, 1, none⟩ = some (.string tt) := by go_simp
          have p2 : (w1.alloc (Obj.cells #[Value.int IntKind.i64 tk, Value.string tt, Value.int IntKind.i64 tp] 136)).cell? ⟨w1.heap.size, 2, none⟩ = some (.int .i64 tp) := by go_simp
          have HE2 := Lib.hid (HE1.out.trans (hb2.mono HE1.out.size))
          clear hb2
          generalize w1.alloc (Obj.cells #[Value.int IntKind.i64 tk, Value.string tt, Value.int IntKind.i64 tp] 136) = w2 at *
          generalize w1.heap.size = U at *
          go_quiet (fail)
          go_wp2_with fail
          go_ret3
          exact ScanPost.mkErr HR.out (HE2.out.trans (below_drewN _ _))
        · have hq : ((out.length : Int) == 256) = false := by simp; omega
          have HSC2 := Lib.hid (show scan s = if tk = 3 then .ok (out ++ [⟨tk, tt, tp⟩]) else scanFrom s gf e (out ++ [⟨tk, tt, tp⟩]) by rw [HSC.out, scanFrom, ht]; exact if_neg h256)
          clear ht
          go_wp2_with fail
          refine (token_any HL.out).mono ?_
          rintro e' w1 ⟨rfl, hl1, he1⟩
          rw [HT.out] at hl1 ⊢
          simp only [optV, Option.isSome_some]
          have hsz : w.heap.size < w1.heap.size := hl1.1
          have HO1 := Lib.hid (ownsRow_ext HO.out he1 (Nat.lt_succ_self _))
          have HE1 := Lib.hid (HB.out.trans (he1.below (B := w.heap.size) (Nat.le_refl _) HB.out.size))
          have HL1 := Lib.hid hl1
          clear hl1 he1
          go_wp2_with (at_builtin; refine wpList_append_own _ rfl _ _ 63 rfl (w.heap.size + 1) 136 i0 _ 3 32 Tryz.underlying63 hi hz0 hz1 hz2 rfl (by decide) _ _ _ rfl ((HO1.out.alloc _).alloc _) ⟨w1.heap.size + 1, 0, none⟩ 1 1 [.int .i64 tk, .string tt, .int .i64 tp] rfl rfl ?c1 ?c2 ?c3 ?c4 ?c5 ?_)
          case c2 => exact ⟨rfl, rfl, rfl⟩
          case c3 => unfold maxLen; omega
          case c4 => omega
          case c5 => omega
          intro v' w3 hown hgrow _
          have hrow : ∀ k, (Value.slice x out.length cap).ownBlock = some k → w.heap.size + 1 ≤ k ∧ k < w1.heap.size := HO1.out.lt
          have hkeep : ∀ k, k < w1.heap.size + 2 → (k < w.heap.size + 1 ∨ w1.heap.size ≤ k) → w3.heap[k]? = ((w1.alloc (Obj.cells #[Value.int IntKind.i64 tk, Value.string tt, Value.int IntKind.i64 tp] 136)).alloc (Obj.cells #[Value.int IntKind.i64 tk, Value.string tt, Value.int IntKind.i64 tp] 136)).heap[k]? := fun k hk hor =>
            hgrow.block k (by simp; omega) (fun e => by have := hrow k e.symm; omega)
          have hb3 : Below (w.heap.size + 1) w1 w3 := (((Below.refl _ _).alloc (by omega) _).alloc (by simp; omega) _).trans ⟨hgrow.os, hgrow.tape, hgrow.output, hgrow.size, fun k hk => hkeep k (by omega) (Or.inl hk)⟩
          have p0 : w3.cell? ⟨w1.heap.size, 0, none⟩ = some (.int .i64 tk) := by
            rw [World.cell?_of_block (w := ((w1.alloc (Obj.cells #[Value.int IntKind.i64 tk, Value.string tt, Value.int IntKind.i64 tp] 136)).alloc (Obj.cells #[Value.int IntKind.i64 tk, Value.string tt, Value.int IntKind.i64 tp] 136))) (hkeep w1.heap.size (by omega) (Or.inr (Nat.le_refl _)))]
            go_simp
          have HE3 := Lib.hid (HE1.out.trans (hb3.mono (Nat.le_succ _)))
          have HL3 : Hid (LR w3 w.heap.size s e) := Lib.hid (by
            obtain ⟨h0, h1, h2, h3, h4⟩ := HL1.out
            refine ⟨Nat.lt_of_lt_of_le h0 hb3.size, ?_, ?_, ?_, h4⟩
            · rw [hb3.cell (p := ⟨w.heap.size, 0, none⟩) (Nat.lt_succ_self _)]; exact h1
            · rw [hb3.cell (p := ⟨w.heap.size, 1, none⟩) (Nat.lt_succ_self _)]; exact h2
            · rw [hb3.frozen (p := ⟨w.heap.size, 1, none⟩) (Nat.lt_succ_self _)]; exact h3)
          have hcl : tokCells out ++ [Value.int IntKind.i64 tk, Value.string tt, Value.int IntKind.i64 tp] = tokCells (out ++ [⟨tk, tt, tp⟩]) := (tokCells_snoc out ⟨tk, tt, tp⟩).symm
          rw [hcl] at hown
          have HO3 := Lib.hid hown
          clear hown hgrow hrow hkeep hb3 hcl HO1 HL1 HE1
          by_cases hk3 : tk = 3
          · have HR := Lib.hid (HSC2.out.trans (if_pos hk3))
            have hkq : (tk == 3) = true := by rw [hk3]; rfl
            clear hk3
            obtain ⟨g, cap', cur, hv, hg, hh, hnc, hcm, hcur, htk⟩ : ∃ g cap' cur, v' = .slice (some ⟨g, 0, none⟩) (out.length + 1) cap' ∧ w.heap.size + 1 ≤ g ∧ w3.heap[g]? = some (.cells cur 136 (0, 0)) ∧ out.length + 1 ≤ cap' ∧ cap' ≤ maxLen ∧ cur.size = cap' * 3 ∧ cur.toList.take ((out.length + 1) * 3) = tokCells (out ++ [⟨tk, tt, tp⟩]) := by
              rcases HO3.out.2 with ⟨_, h0⟩ | h
              · omega
              · exact h
            subst hv
            have hrowt := Lib.hid (tokRow_of w3 g cur 136 hh (out ++ [⟨tk, tt, tp⟩]) 0 (by rw [List.drop_zero, List.length_append]; exact htk))
            have hgs : g < w3.heap.size := by
              rcases Nat.lt_or_ge g w3.heap.size with h1 | h1
              · exact h1
              · rw [Array.getElem?_eq_none h1] at hh; cases hh
            clear hh hcur htk hcm
            go_wp2_with fail
            go_ret3
            unfold ScanPost
            rw [HR.out]
            exact ⟨g, cap', by simp, by omega, hgs, by simpa using hnc, hrowt.out, HE3.out⟩
          · have HR := Lib.hid (HSC2.out.trans (if_neg hk3))
            have hkq : (tk == 3) = false := by simpa using hk3
            clear hk3
            have hl256 : Hid (out.length < 256) := Lib.hid (by omega)
            obtain ⟨x', cap', rfl⟩ : ∃ x' cap', v' = .slice x' (out.length + 1) cap' := by
              rcases HO3.out.2 with ⟨_, h0⟩ | ⟨g, cap', _, h, _⟩
              · omega
              · exact ⟨_, _, h⟩
            go_wp2_with fail
            go_roundg gf
            case measure => omega
            case rel =>
              exact ⟨e, out ++ [⟨tk, tt, tp⟩], Lib.hid (by have := hlen.out; simp; omega), Lib.hid (by have := hlen.out; have := hl256.out; omega), Lib.hid (by rw [List.length_append]; exact HO3.out), HL3, HE3, HR⟩
end Go.Proofs.YtjojihadnplllaaGreatDoor
