/- grammar's read and Parse: the command of a text, or the offset of an error. -/
import Derived.Test.YtjojihadnplllaaGreatDoorCmI
import Derived.Test.YtjojihadnplllaaGreatDoorPlC
import Derived.Deep.RegionHeld3
namespace Go.Proofs.YtjojihadnplllaaGreatDoor
open Go.RowKit Go Go.Shelf Go.Proofs

/-- How read ends: the command, or nothing and an error. -/
def ParsePost (r : Res Cmd) (w : World) (e : Ending) (w' : World) : Prop :=
  Below w.heap.size w w' ∧
    match r with
    | .ok c _ => ∃ sv, e = .returned (.tuple #[.agg (cmdCells c sv).toArray, .int .i64 0, .int .i64 0]) ∧ selIs w.heap.size c.sel w' sv
    | .err p er => e = .returned (.tuple #[.agg (cmdCells cmd0 (.slice none 0 0)).toArray, .int .i64 p, .int .i64 er])
theorem ParsePost.mkErr {r : Res Cmd} {w w' : World} {p er : Int} (hr : r = .err p er) (hb : Below w.heap.size w w') :
    ParsePost r w (.returned (.tuple #[.agg (cmdCells cmd0 (.slice none 0 0)).toArray, .int .i64 p, .int .i64 er])) w' := by
  subst hr; exact ⟨hb, rfl⟩
theorem ParsePost.mkOk {r : Res Cmd} {w w' : World} {c : Cmd} {ts : List Tok} {sv : Value} (hr : r = .ok c ts) (hb : Below w.heap.size w w') (hs : selIs w.heap.size c.sel w' sv) :
    ParsePost r w (.returned (.tuple #[.agg (cmdCells c sv).toArray, .int .i64 0, .int .i64 0])) w' := by
  subst hr; exact ⟨hb, sv, rfl, hs⟩

/-- The three results are read out of their blocks. -/
theorem results42 {w : World} {tmps : Array Value} {d p q : Nat} {ds : List Value} {x y : Int} (h4 : tmps[4]?.getD undef = .pointer (some ⟨d, 0, none⟩)) (h5 : tmps[5]?.getD undef = .pointer (some ⟨p, 0, none⟩)) (h6 : tmps[6]?.getD undef = .pointer (some ⟨q, 0, none⟩))
    (hd : Own w d ds) (hl : ds.length = 19) (hp : Own w p [.int .i64 x]) (hq : Own w q [.int .i64 y]) : (results Tryz.f42 tmps).run Tryz.prog w = .ok (.tuple #[.agg ds.toArray, .int .i64 x, .int .i64 y]) w := by
  have h1 := run_loadVar_mid (P := Tryz.prog) w d 0 29 ds _ hd.range Tryz.underlying29 rfl (by rw [size29, hl])
  have hp0 := hp.cell (k := 0) rfl
  have hq0 := hq.cell (k := 0) rfl
  have h2 : (loadVar 3 ⟨p, 0, none⟩).run Tryz.prog w = .ok (.int .i64 x) w := by
    have u3 := Tryz.isAgg3
    simp [go_sem, hp0, u3]
  have h3 : (loadVar 30 ⟨q, 0, none⟩).run Tryz.prog w = .ok (.int .i64 y) w := by
    have u30 := Tryz.isAgg30
    simp [go_sem, hq0, u30]
  have a1 : ∀ (b : Nat), (asAddr (.pointer (some ⟨b, 0, none⟩))).run Tryz.prog w = .ok ⟨b, 0, none⟩ w := fun _ => rfl
  simp [results, Tryz.results42, h4, h5, h6, h1, h2, h3, a1, Sem.run_bind, Result.andThen]

theorem R3.drew {W w : World} {d p q : Nat} {ds : List Value} {p0 q0 : Value} (h : R3 W d p q ds p0 q0 w) : R3 W d p q ds p0 q0 w.drew :=
  ⟨h.os, h.tape, h.output, h.size, h.block, h.od.block (Nat.le_refl _) rfl, h.op.block (Nat.le_refl _) rfl, h.oq.block (Nat.le_refl _) rfl⟩
set_option maxRecDepth 100000 in
set_option maxHeartbeats 4000000 in
theorem read_err (s : ByteArray) (w : World) (hs : s.size ≤ 9223372036854775807) {pp er : Int} (hsc : scan s = .err pp er) :
    Calls Tryz.prog 42 #[.string s, .func (.func 43) #[] #[]] w (ParsePost (readP commandP s) w) := by
  have hr : readP commandP s = .err pp er := by unfold readP; rw [hsc]
  have he : (er != 0) = true := by rw [bne_iff_ne]; exact scan_err hsc
  have HR := Lib.hid hr
  have HS := Lib.hid hsc
  clear hr hsc
  go_enter_defers Tryz.func42, Tryz.ntmps42
  go_wp2_with fail
  refine (scan_any s _ hs).mono ?_
  intro e w1 hp
  unfold ScanPost at hp
  rw [HS.out] at hp
  obtain ⟨rfl, hb⟩ := hp
  have HD := ((Own.allocNew w zeros 29).allocOld (.cells #[.int .i64 0] 3)).allocOld (.cells #[.int .i64 0] 30)
  have HP := (Own.allocNew (w.alloc (.cells zeros.toArray 29)) [.int .i64 0] 3).allocOld (.cells #[.int .i64 0] 30)
  have HQ := Own.allocNew ((w.alloc (.cells zeros.toArray 29)).alloc (.cells #[.int .i64 0] 3)) [.int .i64 0] 30
  have hsz : ((w.alloc (.cells zeros.toArray 29)).alloc (.cells #[.int .i64 0] 3)).heap.size = w.heap.size + 1 + 1 := by simp
  have hsz1 : (w.alloc (.cells zeros.toArray 29)).heap.size = w.heap.size + 1 := by simp
  rw [hsz] at HQ
  rw [hsz1] at HP
  have hb0 : Below w.heap.size w (((w.alloc (.cells zeros.toArray 29)).alloc (.cells #[.int .i64 0] 3)).alloc (.cells #[.int .i64 0] 30)) := (((Below.refl _ _).alloc (Nat.le_refl _) _).alloc (by simp) _).alloc (by simp; omega) _
  clear hsz hsz1
  change Below (((w.alloc (.cells zeros.toArray 29)).alloc (.cells #[.int .i64 0] 3)).alloc (.cells #[.int .i64 0] 30)).heap.size (((w.alloc (.cells zeros.toArray 29)).alloc (.cells #[.int .i64 0] 3)).alloc (.cells #[.int .i64 0] 30)) w1 at hb
  generalize ((w.alloc (.cells zeros.toArray 29)).alloc (.cells #[.int .i64 0] 3)).alloc (.cells #[.int .i64 0] 30) = W0 at *
  have hb1 := Lib.hid (hb0.trans (hb.mono (Nat.le_of_lt HD.lt |> fun h => h)))
  have HD1 := HD.block hb.size (hb.block _ HD.lt)
  have HP1 := HP.block hb.size (hb.block _ HP.lt)
  have HQ1 := HQ.block hb.size (hb.block _ HQ.lt)
  clear hb hb0 HD HP HQ
  have H0 : Hid (R3 w1 w.heap.size (w.heap.size + 1) (w.heap.size + 1 + 1) zeros (.int .i64 0) (.int .i64 0) w1) := ⟨rfl, rfl, rfl, rfl, fun _ _ _ _ => rfl, HD1, HP1, HQ1⟩
  clear HD1 HP1 HQ1
  have hp0 := H0.out.op.cell (k := 0) rfl
  have hp1 := H0.out.op.frozen (k := 0) (by simp)
  have H1 := Lib.hid (H0.out.setP (by omega) (by omega) (.int .i64 pp))
  have hB : Hid (∀ w', R3 w1 w.heap.size (w.heap.size + 1) (w.heap.size + 1 + 1) zeros (.int .i64 pp) (.int .i64 er) w' → Below w.heap.size w w') := Lib.hid (fun w' h => ⟨h.os.trans hb1.out.os, h.tape.trans hb1.out.tape, h.output.trans hb1.out.output, by rw [h.size]; exact hb1.out.size, fun k hk => (h.block k (by omega) (by omega) (by omega)).trans (hb1.out.block k hk)⟩)
  clear H0
  generalize hDD : w.heap.size = D at *
  have HDD := Lib.hid hDD
  clear hDD
  go_wp2_with fail
  generalize w1.setCell ⟨D + 1, 0, none⟩ (.int .i64 pp) = W at *
  have H2 := Lib.hid H1.out.drew
  refine wp_region_noPanic ?_
  refine wp_region_held_drew (S := fun w' => ∃ z, Hid (R3 w1 D (D + 1) (D + 1 + 1) zeros (.int .i64 pp) z w')) (by kernel_rfl) ⟨_, H2⟩ (fun hHeld => ?_)
  refine wpAnyH_take (i := 0) (oi := { dst := some 18, op := .load 29 (.tmp 4), type := 29, pos := "grammar.go:449", after := #[], guard := none }) (v := .agg zeros.toArray) rfl (by kernel_rfl) (by kernel_rfl) (by kernel_rfl) (fun _ _ _ h => h) (yields_load_own rfl Tryz.underlying29 rfl size29 (fun w2 ⟨_, h⟩ => h.out.od)) hHeld ?_
  refine wpAnyH_take (i := 1) (oi := { dst := some 19, op := .load 3 (.tmp 5), type := 3, pos := "grammar.go:449", after := #[], guard := none }) (v := .int .i64 pp) rfl (by kernel_rfl) (by kernel_rfl) (by kernel_rfl) (fun _ _ _ h => h) (Or.inl ⟨by rfl, fun w2 ⟨_, h⟩ => by have h2 := h.out.op.cell (k := 0) rfl; go_simp⟩) hHeld ?_
  refine wpAnyH_take (i := 2) (oi := { dst := some 20, op := .move (.tmp 8), type := 30, pos := "grammar.go:449", after := #[{ on := 4, ground := Ground.gcOnly Departure.lateStores }], guard := none }) (v := .int .i64 er) rfl (by kernel_rfl) (by kernel_rfl) (by kernel_rfl) (fun _ _ _ h => h) (Or.inl ⟨by rfl, fun w2 _ => by go_simp⟩) hHeld ?_
  simp only [Act.put, List.setIfInBounds_toArray, List.set_cons_zero, List.set_cons_succ]
  refine stores3 (i := 3) (j := 4) (k := 5) (fun w' => Hid (R3 w1 D (D + 1) (D + 1 + 1) zeros (.int .i64 pp) (.int .i64 0) w')) (fun w' => Hid (R3 w1 D (D + 1) (D + 1 + 1) zeros (.int .i64 pp) (.int .i64 0) w')) (fun w' => Hid (R3 w1 D (D + 1) (D + 1 + 1) zeros (.int .i64 pp) (.int .i64 0) w')) (fun w' => Hid (R3 w1 D (D + 1) (D + 1 + 1) zeros (.int .i64 pp) (.int .i64 er) w')) rfl rfl rfl
    (by kernel_rfl) (by kernel_rfl) (by kernel_rfl) (by kernel_rfl) rfl rfl rfl ?_ ?_ ?_ (fun _ h => ⟨_, h⟩) (fun _ h => ⟨_, h⟩) (fun _ h => ⟨_, h⟩) H2 ?_
  · intro w2 K h hK
    exact wp_store_own (ty := 29) (cs := zeros) h.out.od rfl rfl rfl size29 rfl (hK _ (Lib.hid (h.out.setD (by omega) (by omega) zeros rfl)))
  · intro w2 K h hK
    exact wp_store_one (ty := 3) h.out.op rfl rfl size3 (hK _ (Lib.hid (h.out.setP (by omega) (by omega) (.int .i64 pp))))
  · intro w2 K h hK
    exact wp_store_one (ty := 30) h.out.oq rfl rfl size30 (hK _ (Lib.hid (h.out.setQ (by omega) (by omega) (.int .i64 er))))
  · intro w2 h
    have HB := Lib.hid (hB.out _ h.out)
    clear hB H1 H2 hb1 hp0 hp1 hHeld
    refine NoPanic.normal ?_
    go_wp2_with fail
    refine ⟨_, results42 rfl rfl rfl h.out.od rfl h.out.op h.out.oq, ParsePost.mkErr HR.out (by rw [HDD.out]; exact HB.out)⟩

/-- The reader that read makes of the tokens. -/
theorem rd_made {w : World} {b c : Nat} {ts : List Tok} (hL : Laid w) (hb : b < w.heap.size) (hc : ts.length ≤ c) (hr : tokRow w b 0 ts) :
    Rd (w.alloc (.cells #[.slice (some ⟨b, 0, none⟩) ts.length c] 148)) w.heap.size ts := by
  have hbl : Below w.heap.size w (w.alloc (.cells #[.slice (some ⟨b, 0, none⟩) ts.length c] 148)) := (Below.refl _ _).alloc (Nat.le_refl _) _
  exact ⟨hL.below (hbl.mono hL.size), hL.size, by simp, by simp, b, 0, c, hb, hc, by rw [World.cell?_alloc_new]; rfl, tokRow.keep (hbl.block b hb) ts 0 hr⟩

/-- No cell of the block holds the kind of the end. -/
def NoEnd (w : World) (D : Nat) : Prop := ∀ i v, w.cell? ⟨D, i, none⟩ = some v → v ≠ .int .i64 3
theorem NoEnd.block {w w' : World} {D : Nat} (h : NoEnd w D) (hb : w'.heap[D]? = w.heap[D]?) : NoEnd w' D := fun i v hv => h i v (by rw [← hv]; exact (World.cell?_of_block (w := w) (a := ⟨D, i, none⟩) hb).symm)
theorem noEnd_new (w : World) : NoEnd (w.alloc (.cells zeros.toArray 29)) w.heap.size := fun i v hv => by
  rw [World.cell?_alloc_new] at hv
  have hm : v ∈ zeros := List.mem_of_getElem? (i := i) (by simpa using hv)
  rintro rfl
  simp [zeros, cmdCells, cmd0, fix0] at hm
theorem tokRow_last {w : World} {b : Nat} : ∀ (l : List Tok) (o : Nat) (e : Tok), tokRow w b o (l ++ [e]) → tokAt w b (o + 3 * l.length) e
  | [], _, _, h => h.1
  | t :: l, o, e, h => by
    have := tokRow_last l (o + 3) e h.2
    rw [show o + 3 * (t :: l).length = o + 3 + 3 * l.length by simp; omega]; exact this
/-- A store into a block without the end's kind, ahead of the reader, keeps the reader. -/
theorem Rd.apart {w w' : World} {rb D : Nat} {ts : List Tok} (h : Rd w rb ts) (hR : Right ts) (hn : NoEnd w D) (h12 : 12 ≤ D) (hD : D ≠ rb) (hx : Ext D w w') : Rd w' rb ts := by
  obtain ⟨h8, h9, h1, h2, b, o, c, h3, h5, h6, h7⟩ := h
  obtain ⟨⟨l, e, rfl, he, _⟩, _⟩ := hR
  have hb : b ≠ D := by
    rintro rfl
    have := (tokRow_last l o e h7).1
    rw [he] at this
    exact hn _ _ this rfl
  refine ⟨h8.ext h12 hx, h9, Nat.lt_of_lt_of_le h1 hx.size, ?_, b, o, c, h3, h5, ?_, tokRow.keep (hx.block b (by omega) hb) _ o h7⟩
  · rw [hx.frozen (p := ⟨rb, 0, none⟩) h1 hD.symm]; exact h2
  · rw [hx.cell (p := ⟨rb, 0, none⟩) h1 hD.symm]; exact h6
theorem ext_setCells {w : World} {b : Nat} (vs : List Value) (o : Nat) : Ext b w (w.setCells b o vs) :=
  ⟨setCells_os _ _ _ _, setCells_tape _ _ _ _, setCells_output _ _ _ _, by rw [setCells_size]; exact Nat.le_refl _, fun k _ hk => setCells_block b vs o w k hk⟩
theorem selIs.keep {lo lo' : Nat} {l : List Sel} {w w' : World} {sv : Value} (h : selIs lo l w sv) (hl : lo' ≤ lo) (hs : w.heap.size ≤ w'.heap.size) (hb : ∀ k, lo ≤ k → k < w.heap.size → w'.heap[k]? = w.heap[k]?) : selIs lo' l w' sv := by
  rcases h with h | ⟨b, cap, rfl, h1, h2⟩
  · exact Or.inl h
  · exact Or.inr ⟨b, cap, rfl, by omega, h2.block hs (hb b h1 h2.lt)⟩

/-- The door behind a failure. -/
theorem door_fail {w : World} {tmps : Array Value} {d p q : Nat} {vs : List Value} {a b : Value} {pos er : Int} {R : Ending → World → Prop} (h4 : tmps[4]?.getD undef = .pointer (some ⟨d, 0, none⟩)) (h5 : tmps[5]?.getD undef = .pointer (some ⟨p, 0, none⟩)) (h6 : tmps[6]?.getD undef = .pointer (some ⟨q, 0, none⟩))
    (hd : Own w d vs) (hl : vs.length = 19) (hp : Own w p [a]) (hq : Own w q [b]) (hdp : d ≠ p) (hdq : d ≠ q) (hpq : p ≠ q)
    (hR : ∀ w', Caught w d p q zeros (.int .i64 pos) (.int .i64 er) w' → R (.returned (.tuple #[.agg zeros.toArray, .int .i64 pos, .int .i64 er])) w') :
    Leaves Tryz.prog Tryz.f42 tmps R [{ target := .fn (.func 92) #[.pointer (some ⟨d, 0, none⟩), .pointer (some ⟨p, 0, none⟩), .pointer (some ⟨q, 0, none⟩)], args := #[] }] (failM pos er false) w := by
  refine leaves_cons (f := 92) (args := #[.pointer (some ⟨d, 0, none⟩), .pointer (some ⟨p, 0, none⟩), .pointer (some ⟨q, 0, none⟩)]) (by simp [failM]) (by simp [go_sem]) ?_
  refine (catch_fail hd hl hp hq hdp hdq hpq).mono ?_
  rintro e u' w' ⟨rfl, rfl, hC⟩
  exact ⟨_, results42 h4 h5 h6 hC.od rfl hC.op hC.oq, hR w' hC⟩
/-- The door behind a return. -/
theorem door_ret {w : World} {tmps : Array Value} {d p q : Nat} {ds : List Value} {x y : Int} {R : Ending → World → Prop} (h4 : tmps[4]?.getD undef = .pointer (some ⟨d, 0, none⟩)) (h5 : tmps[5]?.getD undef = .pointer (some ⟨p, 0, none⟩)) (h6 : tmps[6]?.getD undef = .pointer (some ⟨q, 0, none⟩))
    (hd : Own w d ds) (hl : ds.length = 19) (hp : Own w p [.int .i64 x]) (hq : Own w q [.int .i64 y]) (hR : R (.returned (.tuple #[.agg ds.toArray, .int .i64 x, .int .i64 y])) w) :
    Leaves Tryz.prog Tryz.f42 tmps R [{ target := .fn (.func 92) #[.pointer (some ⟨d, 0, none⟩), .pointer (some ⟨p, 0, none⟩), .pointer (some ⟨q, 0, none⟩)], args := #[] }] .returning w := by
  refine leaves_cons (f := 92) (args := #[.pointer (some ⟨d, 0, none⟩), .pointer (some ⟨p, 0, none⟩), .pointer (some ⟨q, 0, none⟩)]) (by simp) (by simp [go_sem]) ?_
  refine catch_ret.mono ?_
  rintro e u' w' ⟨rfl, rfl, rfl⟩
  exact ⟨_, results42 h4 h5 h6 hd hl hp hq, hR⟩

theorem Caught.below {w w' : World} {d p q B : Nat} {ds : List Value} {x y : Value} (h : Caught w d p q ds x y w') (h1 : B ≤ d) (h2 : B ≤ p) (h3 : B ≤ q) (hB : B ≤ w.heap.size) : Below B w w' :=
  ⟨h.os, h.tape, h.output, h.size, fun k hk => h.block k (by omega) (by omega) (by omega) (by omega)⟩

set_option maxRecDepth 100000 in
set_option maxHeartbeats 4000000 in
theorem read_ok (s : ByteArray) (w : World) (hs : s.size ≤ 9223372036854775807) (hL : Laid w) {ts : List Tok} (hsc : scan s = .ok ts) :
    Calls Tryz.prog 42 #[.string s, .func (.func 43) #[] #[]] w (ParsePost (readP commandP s) w) := by
  have hr : readP commandP s = (commandP ts).bind fun a ts1 => if (hd ts1).kind = 3 then .ok a ts1 else .err (hd ts1).pos 4 := by unfold readP; rw [hsc]
  have HR := Lib.hid hr
  have HS := Lib.hid hsc
  have HRI := Lib.hid (scan_right hsc)
  have HL := Lib.hid hL
  clear hr hsc hL
  have hmf : ∀ (fn : Fn) (first cap : Array Value) (w : World), (Instr.makeFunc fn first cap).run Tryz.prog w = .ok (.func fn first cap) w := fun _ _ _ _ => rfl
  go_enter_defers Tryz.func42, Tryz.ntmps42
  go_wp2_with fail
  refine (scan_any s _ hs).mono ?_
  intro e w1 hp
  unfold ScanPost at hp
  rw [HS.out] at hp
  obtain ⟨b, c, rfl, hbl, hbh, hlc, htr, hb⟩ := hp
  have HD := ((Own.allocNew w zeros 29).allocOld (.cells #[.int .i64 0] 3)).allocOld (.cells #[.int .i64 0] 30)
  have HP := (Own.allocNew (w.alloc (.cells zeros.toArray 29)) [.int .i64 0] 3).allocOld (.cells #[.int .i64 0] 30)
  have HQ := Own.allocNew ((w.alloc (.cells zeros.toArray 29)).alloc (.cells #[.int .i64 0] 3)) [.int .i64 0] 30
  have hsz : ((w.alloc (.cells zeros.toArray 29)).alloc (.cells #[.int .i64 0] 3)).heap.size = w.heap.size + 1 + 1 := by simp
  have hsz1 : (w.alloc (.cells zeros.toArray 29)).heap.size = w.heap.size + 1 := by simp
  rw [hsz] at HQ
  rw [hsz1] at HP
  have hb0 : Below w.heap.size w (((w.alloc (.cells zeros.toArray 29)).alloc (.cells #[.int .i64 0] 3)).alloc (.cells #[.int .i64 0] 30)) := (((Below.refl _ _).alloc (Nat.le_refl _) _).alloc (by simp) _).alloc (by simp; omega) _
  have hbx : Below (w.alloc (.cells zeros.toArray 29)).heap.size (w.alloc (.cells zeros.toArray 29)) (((w.alloc (.cells zeros.toArray 29)).alloc (.cells #[.int .i64 0] 3)).alloc (.cells #[.int .i64 0] 30)) := ((Below.refl _ _).alloc (Nat.le_refl _) _).alloc (by simp) _
  have HN := (noEnd_new w).block (hbx.block _ (by simp))
  clear hbx
  have hsz2 : (((w.alloc (.cells zeros.toArray 29)).alloc (.cells #[.int .i64 0] 3)).alloc (.cells #[.int .i64 0] 30)).heap.size = w.heap.size + 1 + 1 + 1 := by simp
  clear hsz hsz1
  change Below (((w.alloc (.cells zeros.toArray 29)).alloc (.cells #[.int .i64 0] 3)).alloc (.cells #[.int .i64 0] 30)).heap.size (((w.alloc (.cells zeros.toArray 29)).alloc (.cells #[.int .i64 0] 3)).alloc (.cells #[.int .i64 0] 30)) w1 at hb
  change (((w.alloc (.cells zeros.toArray 29)).alloc (.cells #[.int .i64 0] 3)).alloc (.cells #[.int .i64 0] 30)).heap.size ≤ b at hbl
  generalize ((w.alloc (.cells zeros.toArray 29)).alloc (.cells #[.int .i64 0] 3)).alloc (.cells #[.int .i64 0] 30) = W0 at *
  rw [hsz2] at hbl
  clear hsz2
  have hb1 := Lib.hid (hb0.trans (hb.mono (Nat.le_of_lt HD.lt)))
  have HN1 := Lib.hid (HN.block (hb.block _ HD.lt))
  have HD1 := HD.block hb.size (hb.block _ HD.lt)
  have HP1 := HP.block hb.size (hb.block _ HP.lt)
  have HQ1 := HQ.block hb.size (hb.block _ HQ.lt)
  clear hb hb0 HD HP HQ
  have h12 := HL.out.size
  have HL1 := Lib.hid (HL.out.below (hb1.out.mono HL.out.size))
  clear HL
  have H0 : Hid (R3 w1 w.heap.size (w.heap.size + 1) (w.heap.size + 1 + 1) zeros (.int .i64 0) (.int .i64 0) w1) := ⟨rfl, rfl, rfl, rfl, fun _ _ _ _ => rfl, HD1, HP1, HQ1⟩
  clear HD1 HP1 HQ1
  have hp0 := H0.out.op.cell (k := 0) rfl
  have hp1 := H0.out.op.frozen (k := 0) (by simp)
  have H1 := Lib.hid (H0.out.setP (by omega) (by omega) (.int .i64 0))
  have HT : Hid (tokRow (w1.setCell ⟨w.heap.size + 1, 0, none⟩ (.int .i64 0)) b 0 ts) := tokRow.keep (Below.heap_setCell _ _ _ _ (by show b ≠ w.heap.size + 1; omega)) ts 0 htr
  have HL2 : Hid (Laid (w1.setCell ⟨w.heap.size + 1, 0, none⟩ (.int .i64 0))) := HL1.out.below ((((Ext.refl (w.heap.size + 1) w1).setCell (p := ⟨w.heap.size + 1, 0, none⟩) (Or.inl rfl) _)).below (by omega) HL1.out.size)
  have HB1 : Hid (Below w.heap.size w (w1.setCell ⟨w.heap.size + 1, 0, none⟩ (.int .i64 0))) := hb1.out.setCell (by show w.heap.size ≤ _; simp) _
  have hbs : b < (w1.setCell ⟨w.heap.size + 1, 0, none⟩ (.int .i64 0)).heap.size := by simpa [World.setCell] using hbh
  have hrb : (w1.setCell ⟨w.heap.size + 1, 0, none⟩ (.int .i64 0)).heap.size = w1.heap.size := by simp [World.setCell]
  have HN2 := Lib.hid (HN1.out.block (Below.heap_setCell w1 ⟨w.heap.size + 1, 0, none⟩ (.int .i64 0) w.heap.size (by show w.heap.size ≠ w.heap.size + 1; omega)))
  have HRD := Lib.hid (rd_made HL2.out hbs hlc HT.out)
  clear H0 htr HT hb1 HL1 HN1 HL2
  generalize hDD : w.heap.size = D at *
  have HDD := Lib.hid hDD
  clear hDD
  have hbb : Below (w1.setCell ⟨D + 1, 0, none⟩ (.int .i64 0)).heap.size (w1.setCell ⟨D + 1, 0, none⟩ (.int .i64 0)) ((w1.setCell ⟨D + 1, 0, none⟩ (.int .i64 0)).alloc (.cells #[.slice (some ⟨b, 0, none⟩) ts.length c] 148)) := (Below.refl _ _).alloc (Nat.le_refl _) _
  have HD2 := H1.out.od.allocOld (.cells #[.slice (some ⟨b, 0, none⟩) ts.length c] 148)
  have HP2 := H1.out.op.allocOld (.cells #[.slice (some ⟨b, 0, none⟩) ts.length c] 148)
  have HQ2 := H1.out.oq.allocOld (.cells #[.slice (some ⟨b, 0, none⟩) ts.length c] 148)
  have HB2 := HB1.out.trans (hbb.mono (by have := HB1.out.size; rw [HDD.out] at this; exact this))
  have HN3 := HN2.out.block (hbb.block D H1.out.od.lt)
  have hDr : D < w1.heap.size := by rw [← hrb]; exact H1.out.od.lt
  have hQr : D + 1 + 1 < w1.heap.size := by rw [← hrb]; exact H1.out.oq.lt
  rw [hrb] at HRD
  go_wp2_with fail
  have hW2 : ((w1.setCell ⟨D + 1, 0, none⟩ (.int .i64 0)).alloc (.cells #[.slice (some ⟨b, 0, none⟩) ts.length c] 148)).heap.size = w1.heap.size + 1 := by simp [World.setCell]
  clear H1 HN2 HB1 hbb hrb hbs hp0 hp1
  generalize (w1.setCell ⟨D + 1, 0, none⟩ (.int .i64 0)).alloc (.cells #[.slice (some ⟨b, 0, none⟩) ts.length c] 148) = W2 at *
  generalize w1.heap.size = rb at *
  clear HN hbl hbh hlc HS
  have HDh := Lib.hid HD2
  have HPh := Lib.hid HP2
  have HQh := Lib.hid HQ2
  have HBh := Lib.hid HB2
  have HNh := Lib.hid HN3
  clear HD2 HP2 HQ2 HB2 HN3
  refine Post.step (command_any HRD.out HRI.out) ?_ ?_
  · rintro cm ts1 _ w4 hr ⟨sv, rfl, hsel⟩ he hrd hri
    have HR1 := Lib.hid (HR.out.trans (by rw [hr, Res.bind_ok]))
    have HD4 := Lib.hid (HDh.out.ext he (by omega))
    have HP4 := Lib.hid (HPh.out.ext he (by omega))
    have HQ4 := Lib.hid (HQh.out.ext he (by omega))
    have HB4 := Lib.hid (HBh.out.trans (he.below (by omega) (by omega)))
    have HN4 := Lib.hid (HNh.out.block (he.block D HDh.out.lt (by omega)))
    have HSL := Lib.hid hsel
    have HRD4 := Lib.hid hrd
    have HRI4 := Lib.hid hri
    have hs4 : rb + 1 ≤ w4.heap.size := by have := he.size; omega
    clear hr hsel he hrd hri HDh HPh HQh HBh HNh HR HRD HRI
    have HD5 := Lib.hid (HD4.out.setCells (cmdCells cm sv) rfl)
    have HX := Lib.hid (ext_setCells (w := w4) (b := D) (cmdCells cm sv) 0)
    have HP5 := Lib.hid (HP4.out.ext HX.out (by omega))
    have HQ5 := Lib.hid (HQ4.out.ext HX.out (by omega))
    have HRD5 := Lib.hid (HRD4.out.apart HRI4.out HN4.out h12 (by omega) HX.out)
    have HB5 := Lib.hid (HB4.out.trans (HX.out.below (Nat.le_refl _) (by omega)))
    have HSL5 := Lib.hid (HSL.out.keep (lo' := rb + 1) (by omega) HX.out.size (fun k hk _ => HX.out.block k (by assumption) (by omega)))
    go_wp2_with (((with_reducible refine at_st (ty := 29) ?_); refine wpl_store (ty := 29) (cs := ?_) HD4.out ?_ ?_ ?_ ?_ ?_ ?_; rotate_left; exact rfl; exact rfl; exact rfl; exact size29; exact (cmd_one _ (selIs_one HSL.out))))
    clear HD4 HP4 HQ4 HRD4 HB4 HSL HN4
    have hs5 : rb + 1 ≤ (w4.setCells D 0 (cmdCells cm sv)).heap.size := by rw [setCells_size]; exact hs4
    clear HX hs4
    generalize w4.setCells D 0 (cmdCells cm sv) = w5 at *
    obtain ⟨t, l, htl⟩ := HRI4.out.cons
    subst htl
    refine (next_any HRD5.out).mono ?_
    rintro e w6 ⟨rfl, hb6⟩
    unfold tokV
    have HD6 := Lib.hid (HD5.out.block hb6.size (hb6.block _ HD5.out.lt))
    have HP6 := Lib.hid (HP5.out.block hb6.size (hb6.block _ HP5.out.lt))
    have HQ6 := Lib.hid (HQ5.out.block hb6.size (hb6.block _ HQ5.out.lt))
    have HRD6 := Lib.hid (HRD5.out.below hb6)
    have HB6 := Lib.hid (HB5.out.trans (hb6.mono (by omega)))
    have HSL6 := Lib.hid (HSL5.out.keep (lo' := rb + 1) (Nat.le_refl _) hb6.size (fun k _ hk => hb6.block k hk))
    have hs6 : rb + 1 ≤ w6.heap.size := by have := hb6.size; omega
    clear HD5 HP5 HQ5 HRD5 HB5 HSL5 hb6 hs5
    by_cases hk : t.kind = 3
    · have hk' : (t.kind != 3) = false := by rw [hk]; rfl
      have HR2 := Lib.hid (HR1.out.trans (if_pos hk))
      clear HR1 hk HRD6
      have HX := Lib.hid (ext_setCells (w := w6) (b := D) (cmdCells cm sv) 0)
      have HD7 := Lib.hid (HD6.out.setCells (cmdCells cm sv) rfl)
      have HP7 := Lib.hid (HP6.out.ext HX.out (by omega))
      have HQ7 := Lib.hid (HQ6.out.ext HX.out (by omega))
      have HR3 : Hid (R3 (w6.setCells D 0 (cmdCells cm sv)) D (D + 1) (D + 1 + 1) (cmdCells cm sv) (.int .i64 0) (.int .i64 0) (w6.setCells D 0 (cmdCells cm sv))) := ⟨rfl, rfl, rfl, rfl, fun _ _ _ _ => rfl, HD7.out, HP7.out, HQ7.out⟩
      have hp0 := HP7.out.cell (k := 0) rfl
      have hp1 := HP7.out.frozen (k := 0) (by simp)
      have hq0 := HQ7.out.cell (k := 0) rfl
      have hq1 := HQ7.out.frozen (k := 0) (by simp)
      go_wp2_with (first | (((with_reducible refine at_ld (ty := 29) ?_); refine wpl_load (ty := 29) HD6.out ?_ Tryz.underlying29 ?_ ?_ ?_; exact rfl; exact rfl; exact size29)) | (((with_reducible refine at_st (ty := 29) ?_); refine wpl_store (ty := 29) (cs := ?_) HD6.out ?_ ?_ ?_ ?_ ?_ ?_; rotate_left; exact rfl; exact rfl; exact rfl; exact size29; exact (cmd_one _ (selIs_one HSL6.out)))))
      have H8 := Lib.hid ((HR3.out.setP (by omega) (by omega) (.int .i64 0)).setQ (by omega) (by omega) (.int .i64 0))
      refine door_ret rfl rfl rfl H8.out.od rfl H8.out.op H8.out.oq (ParsePost.mkOk HR2.out ?_ ?_)
      · rw [HDD.out]
        exact (((HB6.out.trans (HX.out.below (Nat.le_refl _) (by omega))).setCell (by show D ≤ D + 1; omega) _).setCell (by show D ≤ D + 1 + 1; omega) _)
      · rw [HDD.out]
        exact HSL6.out.keep (by omega) (by rw [H8.out.size]; exact HX.out.size) (fun k hk _ => (H8.out.block k (by omega) (by omega) (by omega)).trans (HX.out.block k (by assumption) (by omega)))
    · have hk' : (t.kind != 3) = true := by rw [bne_iff_ne]; exact hk
      have HR2 := Lib.hid (HR1.out.trans (if_neg hk))
      clear HR1 hk
      go_wp2_with fail
      refine (fail_any 4 HRD6.out).mono ?_
      rintro e w7 ⟨rfl, hb7⟩
      have HD7 := HD6.out.block hb7.size (hb7.block _ HD6.out.lt)
      have HP7 := HP6.out.block hb7.size (hb7.block _ HP6.out.lt)
      have HQ7 := HQ6.out.block hb7.size (hb7.block _ HQ6.out.lt)
      have HB7 := HB6.out.trans (hb7.mono (by omega))
      exact door_fail rfl rfl rfl HD7 rfl HP7 HQ7 (by omega) (by omega) (by omega) (fun w8 hC => ParsePost.mkErr HR2.out (by
        rw [HDD.out]; exact HB7.trans (hC.below (Nat.le_refl _) (by omega) (by omega) (by have := HD7.lt; omega))))
  · intro pp er w4 hr he
    have HR2 := Lib.hid (HR.out.trans (by rw [hr, Res.bind_err]))
    have HD4 := HDh.out.ext he (by omega)
    have HP4 := HPh.out.ext he (by omega)
    have HQ4 := HQh.out.ext he (by omega)
    have HB4 := HBh.out.trans (he.below (by omega) (by omega))
    exact door_fail rfl rfl rfl HD4 rfl HP4 HQ4 (by omega) (by omega) (by omega) (fun w8 hC => ParsePost.mkErr HR2.out (by
      rw [HDD.out]; exact HB4.trans (hC.below (Nat.le_refl _) (by omega) (by omega) (by have := HD4.lt; omega))))

theorem read_any (s : ByteArray) (w : World) (hs : s.size ≤ 9223372036854775807) (hL : Laid w) :
    Calls Tryz.prog 42 #[.string s, .func (.func 43) #[] #[]] w (ParsePost (readP commandP s) w) := by
  cases hsc : scan s with
  | ok ts => exact read_ok s w hs hL hsc
  | err p e => exact read_err s w hs hsc

theorem ParsePost.opened {r : Res Cmd} {W w1 : World} {e : Ending} (h : ParsePost r W e w1) : ∃ (c : Cmd) (sv : Value) (x y : Int), e = .returned (.tuple #[.agg (cmdCells c sv).toArray, .int .i64 x, .int .i64 y]) ∧ sv.oneCell' = true ∧ Below W.heap.size W w1 ∧
    ∀ w w' : World, w.heap.size ≤ W.heap.size → Below w.heap.size w w' → (∀ k, W.heap.size ≤ k → k < w1.heap.size → w'.heap[k]? = w1.heap[k]?) → w1.heap.size ≤ w'.heap.size →
      ParsePost r w (.returned (.tuple #[.agg (cmdCells c sv).toArray, .int .i64 x, .int .i64 y])) w' := by
  obtain ⟨hb, h⟩ := h
  cases r with
  | ok c ts =>
    obtain ⟨sv, rfl, hs⟩ := h
    exact ⟨c, sv, 0, 0, rfl, selIs_one hs, hb, fun w w' hw hb' hk hsz => ⟨hb', sv, rfl, hs.keep hw hsz hk⟩⟩
  | err p er => exact ⟨cmd0, .slice none 0 0, p, er, h, rfl, hb, fun w w' hw hb' hk hsz => ⟨hb', rfl⟩⟩
theorem results14 {w : World} {tmps : Array Value} {d : Nat} {ds : List Value} {x y : Value} (h2 : tmps[2]?.getD undef = .pointer (some ⟨d, 0, none⟩)) (h3 : tmps[3]?.getD undef = x) (h4 : tmps[4]?.getD undef = y)
    (hd : Own w d ds) (hl : ds.length = 19) : (results Tryz.f14 tmps).run Tryz.prog w = .ok (.tuple #[.agg ds.toArray, x, y]) w := by
  have h1 := run_loadVar_mid (P := Tryz.prog) w d 0 29 ds _ hd.range Tryz.underlying29 rfl (by rw [size29, hl])
  have a1 : ∀ (b : Nat), (asAddr (.pointer (some ⟨b, 0, none⟩))).run Tryz.prog w = .ok ⟨b, 0, none⟩ w := fun _ => rfl
  simp [results, Tryz.results14, h2, h3, h4, h1, a1, Sem.run_bind, Result.andThen]
set_option maxRecDepth 100000 in
set_option maxHeartbeats 4000000 in
/-- Parse. -/
theorem parse_any (s : ByteArray) (w : World) (hs : s.size ≤ 9223372036854775807) (hL : Laid w) :
    Calls Tryz.prog 14 #[.string s] w (ParsePost (readP commandP s) w) := by
  have hb1 : Below w.heap.size w (w.alloc (.cells zeros.toArray 29)) := (Below.refl _ _).alloc (Nat.le_refl _) _
  have HO := Lib.hid (Own.allocNew w zeros 29)
  have HL := Lib.hid (hL.below (hb1.mono hL.size))
  have HB := Lib.hid hb1
  have hsz : Hid ((w.alloc (.cells zeros.toArray 29)).heap.size = w.heap.size + 1) := by show _ = _; simp
  clear hL hb1
  go_enter Tryz.func14, Tryz.ntmps14
  go_wp2_with fail
  refine (read_any s _ hs HL.out).mono ?_
  intro e w1 hp
  obtain ⟨c, sv, x, y, rfl, hone, hbw, hfin⟩ := hp.opened
  have HFIN := Lib.hid hfin
  have HBW := Lib.hid hbw
  have HO1 := Lib.hid (HO.out.block hbw.size (hbw.block _ HO.out.lt))
  have HX := Lib.hid (ext_setCells (w := w1) (b := w.heap.size) (cmdCells c sv) 0)
  have HO2 := Lib.hid (HO1.out.setCells (cmdCells c sv) rfl)
  clear hp hfin hbw
  go_wp2_with ((with_reducible refine at_st (ty := 29) ?_); refine wpl_store (ty := 29) (cs := ?_) HO1.out ?_ ?_ ?_ ?_ ?_ ?_; rotate_left; exact rfl; exact rfl; exact rfl; exact size29; exact (cmd_one _ hone))
  refine bodyPost_ret (results14 rfl rfl rfl HO2.out rfl) rfl ?_
  refine HFIN.out w _ (by rw [hsz.out]; omega) (((HB.out.trans (HBW.out.mono (by rw [hsz.out]; omega)))).trans (HX.out.below (Nat.le_refl _) (by have := HO1.out.lt; omega))) (fun k hk _ => HX.out.block k (by assumption) (by rw [hsz.out] at hk; omega)) HX.out.size
end Go.Proofs.YtjojihadnplllaaGreatDoor
