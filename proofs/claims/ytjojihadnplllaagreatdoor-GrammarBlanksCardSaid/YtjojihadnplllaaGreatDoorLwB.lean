/- What a row's listed variables give the walks; the wrap with both the listed variables and the world's shape. -/
import Derived.Test.YtjojihadnplllaaGreatDoorBase
import Derived.Test.YtjojihadnplllaaGreatDoorTie
import Derived.ProofKit
import Derived.OpenShut
import Derived.LaidMore
import Derived.Lay
import Derived.SevenTiedAt
import Derived.Stop.Joined
import Derived.Shelf.Vars
namespace Go.Proofs.YtjojihadnplllaaGreatDoor
open Go Go.ChangeShapes Go.WideShapes Go.ChangeAt Go.RowKit

/-- Each listed variable reads as its datum. -/
theorem laidVars_mem {P : Program} {w : World} : ∀ {l : List (String × DataW Unit)} {ps : List MemPlace}, DataW.LaidVars P w l ps → ∀ x ∈ l, ∃ g t cs fuel p, P.globalNamed x.1 = some g ∧ (P.globals[g]?).map (·.type) = some t ∧ w.var? P x.1 = some cs ∧
    DataW.trod (fun _ => ()) P w 0 (fun _ => true) false fuel t cs.toList = some (x.2, p)
  | [], _, _, x, hx => by simp at hx
  | (n, d) :: r, _, ⟨g, t, cs, fuel, p, q, h1, h2, h3, h4, h5, _⟩, x, hx => by
    rcases List.mem_cons.1 hx with rfl | hx
    · exact ⟨g, t, cs, fuel, p, h1, h2, h3, h4⟩
    · exact laidVars_mem h5 x hx
theorem iface_of_trod {P : Program} {w : World} {base : Nat} {sp : Nat → Bool} {fuel : Nat} {t : TypeId} {ms : Array (String × TypeId)} {cs : List Value} {nm : String} {d : DataW Unit} {p : List MemPlace} (ht : P.underlying t = some (.interface ms))
    (h : DataW.trod (fun _ => ()) P w base sp false fuel t cs = some (.iface nm d, p)) : ∃ u v, cs = [.iface u v] := by
  cases fuel with
  | zero => simp [DataW.trod] at h
  | succ fuel =>
    rcases cs with _ | ⟨v, _ | ⟨v2, r⟩⟩
    · simp [DataW.trod, ht] at h
    · cases v <;> first | exact ⟨_, _, rfl⟩ | (simp [DataW.trod, ht] at h)
    · simp [DataW.trod, ht] at h
/-- The listed variables that the walks need. -/
structure Listed (P : Program) (l : List (String × DataW Unit)) : Prop where
  syn : ("strconv.ErrSyntax", Rows.laid_strconv_ErrSyntax) ∈ l
  rng : ("strconv.ErrRange", Rows.laid_strconv_ErrRange) ∈ l
  spc : ("strings.asciiSpace", Rows.laid_strings_asciiSpace) ∈ l
theorem spaceTab : (Rows.laid_strings_asciiSpace : DataW Unit) = Lib.tabData IntKind.u8 Lib.asciiSpaceTab := by kernel_rfl
theorem laid_of {W : World} {l : List (String × DataW Unit)} (hl : Listed Tryz.prog l) (h : laidMet Tryz.prog l W) (hsh : W.ShapedOpen Tryz.prog) : Laid W := by
  obtain ⟨ps, hv, _⟩ := h
  obtain ⟨g1, t1, c1, f1, p1, a1, b1, v1, d1⟩ := laidVars_mem hv _ hl.syn
  obtain ⟨g2, t2, c2, f2, p2, a2, b2, v2, d2⟩ := laidVars_mem hv _ hl.rng
  obtain ⟨g3, t3, c3, f3, p3, a3, b3, v3, d3⟩ := laidVars_mem hv _ hl.spc
  obtain rfl := Option.some.inj (globalErrSyntax.symm.trans a1)
  obtain rfl := Option.some.inj (globalErrRange.symm.trans a2)
  obtain rfl := Option.some.inj (globalSpace.symm.trans a3)
  obtain rfl := Option.some.inj ((show (Tryz.prog.globals[6]?).map (·.type) = some 80 by kernel_rfl).symm.trans b1)
  obtain rfl := Option.some.inj ((show (Tryz.prog.globals[7]?).map (·.type) = some 80 by kernel_rfl).symm.trans b2)
  obtain rfl := Option.some.inj ((show (Tryz.prog.globals[0]?).map (·.type) = some 141 by kernel_rfl).symm.trans b3)
  obtain ⟨u1, x1, e1⟩ := iface_of_trod Tryz.underlying80 d1
  obtain ⟨u2, x2, e2⟩ := iface_of_trod Tryz.underlying80 d2
  have e3 := Lib.cells_of_tab (k := .u8) (zs := Lib.asciiSpaceTab) (n := 256) (e := 5) Tryz.underlying141 Tryz.underlying5 (by kernel_rfl) (by kernel_rfl) (d3.trans (by rw [spaceTab]))
  refine ⟨?_, ?_, ⟨u1, x1, ?_⟩, ⟨u2, x2, ?_⟩, ?_⟩
  · obtain ⟨cs, hc, _⟩ := hsh.1 11 #[.pointer none] 188 (of_decide_eq_true (by kernel_rfl)) (by kernel_rfl)
    rcases Nat.lt_or_ge 11 W.heap.size with h1 | h1
    · exact h1
    · rw [Array.getElem?_eq_none h1] at hc; cases hc
  · exact cell_of_shapedOpen_int hsh (g := 2) (t := 3) (zero := #[.int .i64 0]) (of_decide_eq_true (by kernel_rfl)) (by kernel_rfl) rfl (by kernel_rfl) (by kernel_rfl) Tryz.underlying3
  · rw [v1, Array.eq_one_of_toList e1]
  · rw [v2, Array.eq_one_of_toList e2]
  · unfold Lib.TabIs
    rw [v3, ← e3]

/-- The wrap, with the listed variables and the world's shape. -/
theorem returnsInHanded_both {H : Type} {enc : TypeId × Value → H} {a : Assume} {C : Checked} {os : Os} {f : FuncId} {fn : Func} {s : ChangeSpec} {conds : List PathCond} {apart fresh handsOn again : Bool} {X : World → Array Value → Prop}
    (hX : ∀ (w w' : World) (args : Array Value), w.heap = w'.heap → X w args → X w' args)
    (own : ownKnob C.prog.godebug = none) (started : os.Started) (noInit : C.prog.inits.idxOf? f = none) (hfn : C.prog.funcs[f]? = some fn)
    (witness : ∃ (w : World) (tape : Tape) (i : Input), w.os = os ∧ (w.forCall tape i).Shaped C.prog ∧ i.vars = [] ∧ Input.okWide C.prog (w.forCall tape i) .any w.heap.size f i ∧
      ((s.pre enc C.prog fn conds apart (w.forCall tape i).memory i.args ∧ X (w.forCall tape i).memory i.args) ∧ sizedMet enc C.prog fn (OpenSpec.ofChange s) apart (w.forCall tape i).memory i.args) ∧ a.holds C.prog (lone (Frame.enter C.prog f i.args .normal) [] (w.forCall tape i)))
    (contract : ∀ (W : World) (base : Nat) (args : Array Value) (ds gs : List (DataW H)) (before : List MemPlace),
      (∀ (j : Nat) t v, fn.params[j]? = some t → args[j]? = some v → Value.okWide C.prog W .any base t v) →
      DataW.Whole enc C.prog fn.params.toList s.vars apart W args.toList ds gs before →
      conds.all (PathCond.test C.prog ⟨fn.params.toList, ds, s.plain.varTypes C.prog, gs⟩) = true →
      (DataW.weightsEach C.prog (fn.params.toList ++ s.plain.varTypes C.prog) (ds ++ gs)).all (· ≤ reachBytes) = true → X W args → W.ShapedOpen C.prog →
      a.holds C.prog (lone (Frame.enter C.prog f args .normal) [] W) →
      Calls C.prog f args W fun e W' => ∃ v, e = .returned v ∧ s.post enc C.prog fn apart fresh handsOn again W args v W') :
    ReturnsInHanded a C os f .any (fun w args => (s.pre enc C.prog fn conds apart w args ∧ X w args) ∧ sizedMet enc C.prog fn (OpenSpec.ofChange s) apart w args) (s.post enc C.prog fn apart fresh handsOn again) := by
  refine returnsInHanded_of_calls own started noInit witness ?_
  intro w tape i _ hsh _ hok hpre hholds
  obtain ⟨_, _, _, fn', hfn', _, _, _, _, hval⟩ := hok
  have e : fn' = fn := Option.some.inj (hfn'.symm.trans hfn)
  subst e
  obtain ⟨⟨⟨ds, gs, before, hw, hc⟩, hx⟩, hz⟩ := hpre
  have hw' := DataW.Whole.of_heap (w' := w.forCall tape i) (by rfl) hw
  refine (contract (w.forCall tape i) w.heap.size i.args ds gs before hval hw' hc (hz.weights hw) (hX _ _ _ (by rfl) hx) hsh hholds).mono fun e W' ⟨v, he, hp⟩ => ?_
  subst he
  exact ChangeSpec.post_blind hp
end Go.Proofs.YtjojihadnplllaaGreatDoor
