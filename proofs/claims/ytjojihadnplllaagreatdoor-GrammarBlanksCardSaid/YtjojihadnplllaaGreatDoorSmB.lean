/- The reference's Same at two commands that are equal. -/
import Derived.Test.YtjojihadnplllaaGreatDoorSmA
namespace Go.Proofs.YtjojihadnplllaaGreatDoor
open Go.RowKit Go Go.Shelf Go.Proofs

set_option maxRecDepth 100000 in
set_option maxHeartbeats 4000000 in
theorem same_true {w : World} {s1 s2 : Value} (c : Cmd) (h1 : SelRd w s1 c.sel) (h2 : SelRd w s2 c.sel) (hn : c.sel.length ≤ 100000) :
    Calls Tryz.prog 17 #[.agg (cmdCells c s1).toArray, .agg (cmdCells c s2).toArray] w fun e w' => e = .returned (.bool true) ∧ Below w.heap.size w w' := by
  obtain ⟨k, verb, object, number, list, sel, attr, level, palette, time, flags, ⟨ch, part, prof, univ, addr, phase, cable⟩⟩ := c
  have H1 := Lib.hid h1
  have H2 := Lib.hid h2
  clear h1 h2
  unfold cmdCells
  have g26 := Tryz.eqGuardType26
  go_enter Tryz.func17, Tryz.ntmps17
  go_wp2_with fail
  refine wp_loop_rounds 1 ?_
  rw [rounds_succ]
  go_wp2_with fail
  have hb : ∀ o1 o2, Below w.heap.size w ((w.alloc o1).alloc o2) := fun o1 o2 => ((Below.refl _ _).alloc (Nat.le_refl _) _).alloc (by simp) _
  have HB := Lib.hid hb
  clear hb
  refine (sameSel_any (H1.out.below (HB.out _ _)) (H2.out.below (HB.out _ _)) hn).mono ?_
  rintro e w1 ⟨rfl, nq, rfl⟩
  rw [show selsEq sel sel = true from selsEq_iff.2 rfl]
  go_wp2_with fail
  go_ret
  exact ⟨rfl, (HB.out _ _).trans (below_drewN _ _)⟩
end Go.Proofs.YtjojihadnplllaaGreatDoor
