/- The selection of a command is not longer than its text's tokens. -/
import Derived.Test.YtjojihadnplllaaGreatDoorPlC
namespace Go.Proofs.YtjojihadnplllaaGreatDoor

/-- The tokens that are left are few. -/
def RL {α : Type} (n : Nat) : Res α → Prop
  | .ok _ ts => ts.length ≤ n
  | .err _ _ => True
theorem RL.bind {α β : Type} {n : Nat} {r : Res α} {f : α → List Tok → Res β} (h : RL n r) (hf : ∀ a ts, ts.length ≤ n → RL n (f a ts)) : RL n (r.bind f) := by
  cases r with
  | ok a ts => exact hf a ts h
  | err p e => trivial
theorem RL.ite {α : Type} {n : Nat} {c : Prop} [Decidable c] {r s : Res α} (h : RL n r) (k : RL n s) : RL n (if c then r else s) := by
  by_cases hc : c
  · rw [if_pos hc]; exact h
  · rw [if_neg hc]; exact k
theorem RL.err {α : Type} {n : Nat} {p e : Int} : RL n (Res.err p e : Res α) := trivial
theorem tail_len {n : Nat} {ts : List Tok} (h : ts.length ≤ n) : ts.tail.length ≤ n := by simp; omega
section
variable {n : Nat} {ts : List Tok}
theorem word_len (ws : List ByteArray) (h : ts.length ≤ n) : RL n (wordP ws ts) := by
  unfold wordP
  split
  · exact tail_len h
  · exact h
theorem need_len (ws : List ByteArray) (h : ts.length ≤ n) : RL n (needP ws ts) := (word_len ws h).bind fun _ _ h => RL.ite RL.err h
theorem number_len (h : ts.length ≤ n) : RL n (numberP ts) := RL.ite h RL.err
theorem int_len (m : Int) (h : ts.length ≤ n) : RL n (intP m ts) := (number_len h).bind fun _ _ h => RL.ite RL.err (RL.ite RL.err (tail_len h))
theorem term_len (op : Int) (h : ts.length ≤ n) : RL n (termP op ts) :=
  (word_len _ h).bind fun _ _ h => RL.ite ((int_len _ h).bind fun _ _ h => (word_len _ h).bind fun _ _ h => RL.ite h ((int_len _ h).bind fun _ _ h => RL.ite RL.err h)) ((int_len _ h).bind fun _ _ h => h)
end

/-- The selection is short. -/
def RS (n : Nat) : Res (List Sel) → Prop
  | .ok l _ => l.length ≤ n
  | .err _ _ => True
theorem RS.any {α : Type} {n : Nat} {r : Res α} {f : α → List Tok → Res (List Sel)} (hf : ∀ a ts, RS n (f a ts)) : RS n (r.bind f) := by
  cases r with
  | ok a ts => exact hf a ts
  | err p e => trivial
theorem RS.ite {n : Nat} {c : Prop} [Decidable c] {r s : Res (List Sel)} (h : RS n r) (k : RS n s) : RS n (if c then r else s) := by
  by_cases hc : c
  · rw [if_pos hc]; exact h
  · rw [if_neg hc]; exact k
theorem more_len : ∀ (m n : Nat) (l : List Sel) (ts : List Tok), l.length + m ≤ n → RS n (moreP m l ts)
  | 0, _, _, _, h => by show _ ≤ _; omega
  | m + 1, n, l, ts, h => RS.any fun _ _ => RS.ite (RS.any fun _ _ => more_len m n _ _ (by simp; omega)) (RS.any fun _ _ => RS.ite (RS.any fun _ _ => more_len m n _ _ (by simp; omega)) (by show _ ≤ _; omega))
theorem selection_len {n : Nat} {ts : List Tok} (h : ts.length ≤ n) : RS (n + 1) (selectionP ts) := by
  unfold selectionP
  have := term_len (n := n) 0 h
  cases hr : termP 0 ts with
  | err p e => trivial
  | ok s ts1 =>
    rw [hr] at this
    exact more_len _ _ _ _ (by have h1 : ts1.length ≤ n := this; simp; omega)

/-- The command's selection is short. -/
def RC : Res Cmd → Prop
  | .ok c _ => c.sel.length ≤ 1001
  | .err _ _ => True
theorem RC.any {α : Type} {r : Res α} {f : α → List Tok → Res Cmd} (hf : ∀ a ts, RC (f a ts)) : RC (r.bind f) := by
  cases r with
  | ok a ts => exact hf a ts
  | err p e => trivial
theorem RC.bindL {α : Type} {n : Nat} {r : Res α} {f : α → List Tok → Res Cmd} (h : RL n r) (hf : ∀ a ts, ts.length ≤ n → RC (f a ts)) : RC (r.bind f) := by
  cases r with
  | ok a ts => exact hf a ts h
  | err p e => trivial
theorem RC.bindS {r : Res (List Sel)} {f : List Sel → List Tok → Res Cmd} (h : RS 1001 r) (hf : ∀ l ts, l.length ≤ 1001 → RC (f l ts)) : RC (r.bind f) := by
  cases r with
  | ok a ts => exact hf a ts h
  | err p e => trivial
theorem RC.ite {c : Prop} [Decidable c] {r s : Res Cmd} (h : RC r) (k : RC s) : RC (if c then r else s) := by
  by_cases hc : c
  · rw [if_pos hc]; exact h
  · rw [if_neg hc]; exact k
theorem RC.nil {c : Cmd} {ts : List Tok} (h : c.sel = []) : RC (.ok c ts) := by show c.sel.length ≤ 1001; rw [h]; simp
theorem RC.err {p e : Int} : RC (.err p e) := trivial
section
variable {ts : List Tok}
theorem set_few (h : ts.length ≤ 1000) : RC (setP ts) :=
  RC.bindS (selection_len h) fun _ _ hl => RC.any fun _ _ => RC.any fun _ _ => RC.any fun _ _ =>
    RC.ite (RC.any fun _ _ => RC.any fun _ _ => hl) (RC.ite (RC.any fun _ _ => hl) (RC.ite RC.err (RC.any fun _ _ => RC.any fun _ _ => hl)))
theorem clear_few (h : ts.length ≤ 1000) : RC (clearP ts) := RC.ite (RC.nil rfl) (RC.bindS (selection_len h) fun _ _ hl => RC.any fun _ _ => hl)
theorem record_few (h : ts.length ≤ 1000) : RC (recordP ts) :=
  RC.bindL (need_len _ h) fun _ _ h => RC.ite (RC.any fun _ _ => RC.any fun _ _ => RC.any fun _ _ => RC.any fun _ _ => RC.any fun _ _ => RC.nil rfl)
    (RC.bindL (int_len _ h) fun _ _ h => RC.ite (RC.bindS (selection_len h) fun _ _ hl => hl) (RC.nil rfl))
theorem effect_few (v : ByteArray) (h : ts.length ≤ 1000) : RC (effectP v ts) :=
  RC.bindL (int_len _ h) fun _ _ h => RC.ite (RC.nil rfl) (RC.bindL (need_len _ h) fun _ _ h => RC.ite (RC.bindS (selection_len h) fun _ _ hl => hl) (RC.any fun _ _ => RC.nil rfl))
theorem runVerb_few (n : Nat) (s : ByteArray) (h : ts.length ≤ 1000) : RC (runVerb n s ts) := by
  unfold runVerb
  split
  · exact clear_few h
  · exact record_few h
  · exact RC.any fun _ _ => RC.any fun _ _ => RC.nil rfl
  · exact RC.any fun _ _ => RC.ite (RC.any fun _ _ => RC.any fun _ _ => RC.nil rfl) (RC.ite (RC.any fun _ _ => RC.nil rfl) (RC.any fun _ _ => RC.nil rfl))
  · exact RC.any fun _ _ => RC.any fun _ _ => RC.any fun _ _ => RC.any fun _ _ => RC.any fun _ _ => RC.any fun _ _ => RC.any fun _ _ => RC.any fun _ _ => RC.nil rfl
  · exact RC.any fun _ _ => RC.nil rfl
  · exact RC.any fun _ _ => RC.ite (RC.any fun _ _ => RC.any fun _ _ => RC.nil rfl) (RC.ite (RC.any fun _ _ => RC.any fun _ _ => RC.nil rfl) (RC.ite (RC.any fun _ _ => RC.nil rfl) (RC.nil rfl)))
  · exact RC.any fun _ _ => RC.any fun _ _ => RC.any fun _ _ => RC.any fun _ _ => RC.nil rfl
  · exact effect_few _ h
  · exact RC.nil rfl
theorem command_few (h : ts.length ≤ 1000) : RC (commandP ts) := by
  unfold commandP
  refine RC.ite ?_ (set_few h)
  split
  · exact RC.err
  · exact runVerb_few _ _ (tail_len h)
end
theorem read_few (s : ByteArray) : RC (readP commandP s) := by
  unfold readP
  cases hs : scan s with
  | err p e => trivial
  | ok ts =>
    have := command_few (scan_right hs).2.2
    show RC ((commandP ts).bind fun a ts1 => if (hd ts1).kind = 3 then .ok a ts1 else .err (hd ts1).pos 4)
    cases hc : commandP ts with
    | err p e => trivial
    | ok c ts1 =>
      rw [hc] at this
      exact RC.ite this RC.err
end Go.Proofs.YtjojihadnplllaaGreatDoor
