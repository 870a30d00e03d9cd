/- Where the tokens of two texts part in their offsets alone, grammar's methods read the same, or fail with the same error. -/
import Derived.Test.YtjojihadnplllaaGreatDoorCmH
namespace Go.Proofs.YtjojihadnplllaaGreatDoor

/-- The same tokens, but for their offsets. -/
def Sim : List Tok → List Tok → Prop
  | [], [] => True
  | t :: ts, u :: us => (t.kind = u.kind ∧ t.text = u.text) ∧ Sim ts us
  | _, _ => False
/-- The same result, the tokens that are left the same but for their offsets; or the same error. -/
def RSim {α : Type} : Res α → Res α → Prop
  | .ok a ts, .ok b us => a = b ∧ Sim ts us
  | .err _ e, .err _ f => e = f ∧ e ≠ 0
  | _, _ => False

theorem Sim.kind {ts us : List Tok} (h : Sim ts us) : (hd ts).kind = (hd us).kind := by
  cases ts <;> cases us <;> first | exact h.elim | rfl | exact h.1.1
theorem Sim.text {ts us : List Tok} (h : Sim ts us) : (hd ts).text = (hd us).text := by
  cases ts <;> cases us <;> first | exact h.elim | rfl | exact h.1.2
theorem Sim.tail {ts us : List Tok} (h : Sim ts us) : Sim ts.tail us.tail := by
  cases ts <;> cases us <;> first | exact h.elim | trivial | exact h.2
theorem Sim.len : ∀ {ts us : List Tok}, Sim ts us → ts.length = us.length
  | [], [], _ => rfl
  | _ :: _, _ :: _, h => by simp [Sim.len h.2]
theorem Sim.is {ts us : List Tok} (h : Sim ts us) (k : Int) (s : ByteArray) : tokIs (hd ts) k s = tokIs (hd us) k s := by
  unfold tokIs; rw [h.kind, h.text]
theorem Sim.isF {ts us : List Tok} (h : Sim ts us) (k : Int) : tokIs (hd ts) k = tokIs (hd us) k := funext fun s => h.is k s

theorem RSim.ok {α : Type} {a b : α} {ts us : List Tok} (h : a = b) (k : Sim ts us) : RSim (Res.ok a ts) (Res.ok b us) := ⟨h, k⟩
theorem RSim.bind {α β : Type} {r s : Res α} {f g : α → List Tok → Res β} (h : RSim r s) (hk : ∀ a ts us, Sim ts us → RSim (f a ts) (g a us)) : RSim (r.bind f) (s.bind g) := by
  cases r <;> cases s
  · obtain ⟨rfl, h⟩ := h; exact hk _ _ _ h
  · exact h.elim
  · exact h.elim
  · exact h
theorem RSim.ite {α : Type} {c d : Prop} [Decidable c] [Decidable d] {r s r' s' : Res α} (hc : c ↔ d) (h1 : RSim r r') (h2 : RSim s s') : RSim (if c then r else s) (if d then r' else s') := by
  by_cases h : c
  · rw [if_pos h, if_pos (hc.1 h)]; exact h1
  · rw [if_neg h, if_neg (fun hd => h (hc.2 hd))]; exact h2

section
variable {ts us : List Tok}
theorem sign_sim (s : ByteArray) (h : Sim ts us) : RSim (signP s ts) (signP s us) := by
  unfold signP; rw [h.is]
  exact RSim.ite Iff.rfl ⟨rfl, h.tail⟩ ⟨rfl, h⟩
theorem number_sim (h : Sim ts us) : RSim (numberP ts) (numberP us) := by
  unfold numberP; rw [h.kind]
  exact RSim.ite Iff.rfl ⟨h.text, h⟩ ⟨rfl, by decide⟩
theorem must_sim (e : Int) (h : Sim ts us) : RSim (mustP e ts) (mustP e us) := by
  unfold mustP
  by_cases h0 : e = 0
  · rw [if_pos h0, if_pos h0]; exact ⟨rfl, h⟩
  · rw [if_neg h0, if_neg h0]
    exact RSim.ite Iff.rfl ⟨rfl, by decide⟩ ⟨rfl, h0⟩
theorem slash_sim (h : Sim ts us) : RSim (slashP ts) (slashP us) :=
  (sign_sim _ h).bind fun _ _ _ h => RSim.ite Iff.rfl ⟨rfl, h⟩ ⟨rfl, by decide⟩
theorem word_sim (ws : List ByteArray) (h : Sim ts us) : RSim (wordP ws ts) (wordP ws us) := by
  unfold wordP; rw [h.isF]
  split
  · exact ⟨rfl, h.tail⟩
  · exact ⟨rfl, h⟩
theorem need_sim (ws : List ByteArray) (h : Sim ts us) : RSim (needP ws ts) (needP ws us) :=
  (word_sim ws h).bind fun _ _ _ h => RSim.ite Iff.rfl ⟨rfl, by decide⟩ ⟨rfl, h⟩
theorem int_sim (m : Int) (h : Sim ts us) : RSim (intP m ts) (intP m us) :=
  (number_sim h).bind fun _ _ _ h => RSim.ite Iff.rfl ⟨rfl, by decide⟩ (RSim.ite Iff.rfl ⟨rfl, by decide⟩ ⟨rfl, h.tail⟩)
theorem cue_sim (h : Sim ts us) : RSim (cueP ts) (cueP us) :=
  (number_sim h).bind fun _ _ _ h => (must_sim _ h).bind fun _ _ _ h => ⟨h.text, h.tail⟩
theorem level_sim (h : Sim ts us) : RSim (levelP ts) (levelP us) := by
  unfold levelP; rw [h.is]
  exact (RSim.ite Iff.rfl (RSim.ok h.text h) (number_sim h)).bind fun _ _ _ h => (must_sim _ h).bind fun _ _ _ h => ⟨rfl, h.tail⟩
theorem time_sim (h : Sim ts us) : RSim (timeP ts) (timeP us) :=
  (word_sim _ h).bind fun _ _ _ h => RSim.ite Iff.rfl ⟨rfl, h⟩ ((number_sim h).bind fun _ _ _ h => (must_sim _ h).bind fun _ _ _ h => ⟨rfl, h.tail⟩)
theorem profile_sim (h : Sim ts us) : RSim (profileP ts) (profileP us) := by
  unfold profileP; rw [h.kind, h.text]
  exact RSim.ite Iff.rfl (RSim.ite Iff.rfl ⟨rfl, by decide⟩ (RSim.ite Iff.rfl ⟨rfl, by decide⟩ ⟨rfl, h.tail⟩)) ⟨rfl, by decide⟩
theorem kind_sim (n : Int) (h : Sim ts us) : RSim (kindP n ts) (kindP n us) := by
  unfold kindP; rw [h.kind, h.text]
  exact RSim.ite Iff.rfl ⟨rfl, h.tail⟩ ⟨rfl, h⟩
theorem list_sim (h : Sim ts us) : RSim (listP ts) (listP us) := int_sim _ h
theorem term_sim (op : Int) (h : Sim ts us) : RSim (termP op ts) (termP op us) :=
  (word_sim _ h).bind fun _ _ _ h => RSim.ite Iff.rfl
    ((int_sim _ h).bind fun _ _ _ h => (word_sim _ h).bind fun _ _ _ h => RSim.ite Iff.rfl ⟨rfl, h⟩ ((int_sim _ h).bind fun _ _ _ h => RSim.ite Iff.rfl ⟨rfl, by decide⟩ ⟨rfl, h⟩))
    ((int_sim _ h).bind fun _ _ _ h => ⟨rfl, h⟩)
end
theorem more_sim : ∀ (n : Nat) (l : List Sel) {ts us : List Tok}, Sim ts us → RSim (moreP n l ts) (moreP n l us)
  | 0, _, _, _, h => ⟨rfl, h⟩
  | n + 1, _, _, _, h => (sign_sim _ h).bind fun _ _ _ h => RSim.ite Iff.rfl
      ((term_sim _ h).bind fun _ _ _ h => more_sim n _ h)
      ((sign_sim _ h).bind fun _ _ _ h => RSim.ite Iff.rfl ((term_sim _ h).bind fun _ _ _ h => more_sim n _ h) ⟨rfl, h⟩)
section
variable {ts us : List Tok}
theorem selection_sim (h : Sim ts us) : RSim (selectionP ts) (selectionP us) :=
  (term_sim _ h).bind fun s _ _ h => by rw [h.len]; exact more_sim _ _ h
theorem unit_sim (h : Sim ts us) : RSim (unitP ts) (unitP us) :=
  (number_sim h).bind fun _ _ _ h => RSim.ite Iff.rfl ⟨rfl, by decide⟩ (RSim.ite Iff.rfl ⟨rfl, by decide⟩ ⟨rfl, h.tail⟩)
theorem blackout_sim (v : ByteArray) (h : Sim ts us) : RSim (blackoutP v ts) (blackoutP v us) :=
  (need_sim _ h).bind fun _ _ _ h => ⟨rfl, h⟩
theorem fader_sim (v : ByteArray) (h : Sim ts us) : RSim (faderP v ts) (faderP v us) :=
  (RSim.ite Iff.rfl (RSim.ok rfl h) (list_sim h)).bind fun _ _ _ h => (need_sim _ h).bind fun _ _ _ h => (level_sim h).bind fun _ _ _ h => (time_sim h).bind fun _ _ _ h => ⟨rfl, h⟩
theorem place_sim (h : Sim ts us) : RSim (placeP ts) (placeP us) :=
  (list_sim h).bind fun _ _ _ h => (slash_sim h).bind fun _ _ _ h => (cue_sim h).bind fun _ _ _ h => ⟨rfl, h⟩
theorem update_sim (h : Sim ts us) : RSim (updateP ts) (updateP us) :=
  (need_sim _ h).bind fun _ _ _ h => (place_sim h).bind fun _ _ _ h => ⟨rfl, h⟩
theorem effect_sim (v : ByteArray) (h : Sim ts us) : RSim (effectP v ts) (effectP v us) :=
  (list_sim h).bind fun _ _ _ h => RSim.ite Iff.rfl ⟨rfl, h⟩ ((need_sim _ h).bind fun _ _ _ h => RSim.ite Iff.rfl ((selection_sim h).bind fun _ _ _ h => ⟨rfl, h⟩) ((int_sim _ h).bind fun _ _ _ h => ⟨rfl, h⟩))
theorem play_sim (v : ByteArray) (h : Sim ts us) : RSim (playP v ts) (playP v us) :=
  (list_sim h).bind fun _ _ _ h => RSim.ite Iff.rfl ((need_sim _ h).bind fun _ _ _ h => (cue_sim h).bind fun _ _ _ h => ⟨rfl, h⟩)
    (RSim.ite Iff.rfl ((need_sim _ h).bind fun _ _ _ h => (int_sim _ h).bind fun _ _ _ h => ⟨rfl, h⟩)
      (RSim.ite Iff.rfl ((time_sim h).bind fun _ _ _ h => ⟨rfl, h⟩) ⟨rfl, h⟩))
theorem remove_sim (h : Sim ts us) : RSim (removeP ts) (removeP us) :=
  (need_sim _ h).bind fun _ _ _ h => RSim.ite Iff.rfl ((place_sim h).bind fun _ _ _ h => (word_sim _ h).bind fun _ _ _ h => ⟨rfl, h⟩)
    (RSim.ite Iff.rfl ((unit_sim h).bind fun _ _ _ h => ⟨rfl, h⟩) ((list_sim h).bind fun _ _ _ h => ⟨rfl, h⟩))
theorem record_sim (h : Sim ts us) : RSim (recordP ts) (recordP us) :=
  (need_sim _ h).bind fun _ _ _ h => RSim.ite Iff.rfl
    ((place_sim h).bind fun _ _ _ h => (word_sim _ h).bind fun _ _ _ h => (word_sim _ h).bind fun _ _ _ h =>
      (RSim.ite Iff.rfl (RSim.ok rfl h) (int_sim _ h)).bind fun _ _ _ h => (time_sim h).bind fun _ _ _ h => ⟨rfl, h⟩)
    ((list_sim h).bind fun _ _ _ h => RSim.ite Iff.rfl ((selection_sim h).bind fun _ _ _ h => ⟨rfl, h⟩) ⟨rfl, h⟩)
theorem clear_sim (h : Sim ts us) : RSim (clearP ts) (clearP us) := by
  unfold clearP; rw [h.kind]
  exact RSim.ite Iff.rfl ⟨rfl, h⟩ ((selection_sim h).bind fun _ _ _ h => (kind_sim _ h).bind fun _ _ _ h => ⟨rfl, h⟩)
theorem patch_sim (h : Sim ts us) : RSim (patchP ts) (patchP us) :=
  (unit_sim h).bind fun _ _ _ h => (profile_sim h).bind fun _ _ _ h => (need_sim _ h).bind fun _ _ _ h => (int_sim _ h).bind fun _ _ _ h => (slash_sim h).bind fun _ _ _ h =>
    (int_sim _ h).bind fun _ _ _ h => (word_sim _ h).bind fun _ _ _ h => (RSim.ite Iff.rfl (RSim.ok rfl h) (int_sim _ h)).bind fun _ _ _ h => ⟨rfl, h⟩
theorem set_sim (h : Sim ts us) : RSim (setP ts) (setP us) :=
  (selection_sim h).bind fun _ _ _ h => (kind_sim _ h).bind fun _ _ _ h => (need_sim _ h).bind fun _ _ _ h => (word_sim _ h).bind fun _ _ _ h =>
    RSim.ite Iff.rfl ((list_sim h).bind fun _ _ _ h => (time_sim h).bind fun _ _ _ h => ⟨rfl, h⟩)
      (RSim.ite Iff.rfl ((time_sim h).bind fun _ _ _ h => ⟨rfl, h⟩)
        (RSim.ite Iff.rfl ⟨rfl, by decide⟩ ((level_sim h).bind fun _ _ _ h => (time_sim h).bind fun _ _ _ h => ⟨rfl, h⟩)))
theorem runVerb_sim (n : Nat) (s : ByteArray) (h : Sim ts us) : RSim (runVerb n s ts) (runVerb n s us) := by
  unfold runVerb
  split
  · exact clear_sim h
  · exact record_sim h
  · exact update_sim h
  · exact remove_sim h
  · exact patch_sim h
  · exact blackout_sim _ h
  · exact play_sim _ h
  · exact fader_sim _ h
  · exact effect_sim _ h
  · exact ⟨rfl, h⟩
theorem command_sim (h : Sim ts us) : RSim (commandP ts) (commandP us) := by
  unfold commandP; rw [h.kind, h.text]
  refine RSim.ite Iff.rfl ?_ (set_sim h)
  split
  · exact ⟨rfl, by decide⟩
  · exact runVerb_sim _ _ h.tail
end

theorem scanFrom_err (s : ByteArray) : ∀ (n k : Nat) (out : List Tok) (p er : Int), 1 ≤ n → out.length + n = 257 → scanFrom s n k out = .err p er → er ≠ 0
  | 0, _, _, _, _, h, _, _ => absurd h (by omega)
  | n + 1, k, out, p, er, _, hl, h => by
    unfold scanFrom at h
    split at h
    · cases h; decide
    · split at h
      · cases h; decide
      · rename_i hne
        split at h
        · cases h
        · exact scanFrom_err s n _ _ p er (by omega) (by simp; omega) h
theorem scan_err {s : ByteArray} {p er : Int} (h : scan s = .err p er) : er ≠ 0 := by
  unfold scan at h
  split at h
  · cases h; decide
  · exact scanFrom_err s 257 0 [] p er (by omega) rfl h

/-- What read returns: a result, or an offset and an error. -/
def readP {α : Type} (f : List Tok → Res α) (s : ByteArray) : Res α :=
  match scan s with
  | .err p e => .err p e
  | .ok ts => (f ts).bind fun a ts1 => if (hd ts1).kind = 3 then .ok a ts1 else .err (hd ts1).pos 4
/-- What two scans must have in common. -/
def SSim : SRes → SRes → Prop
  | .ok ts, .ok us => Sim ts us
  | .err _ e, .err _ f => e = f
  | _, _ => False
theorem read_sim {α : Type} {f : List Tok → Res α} (hf : ∀ ts us, Sim ts us → RSim (f ts) (f us)) {s t : ByteArray} (h : SSim (scan s) (scan t)) : RSim (readP f s) (readP f t) := by
  unfold readP
  cases hs : scan s <;> cases ht : scan t <;> rw [hs, ht] at h
  · refine (hf _ _ h).bind fun a ts us h => ?_
    rw [h.kind]
    exact RSim.ite Iff.rfl ⟨rfl, h⟩ ⟨rfl, by decide⟩
  · exact h.elim
  · exact h.elim
  · exact ⟨h, scan_err hs⟩
end Go.Proofs.YtjojihadnplllaaGreatDoor
