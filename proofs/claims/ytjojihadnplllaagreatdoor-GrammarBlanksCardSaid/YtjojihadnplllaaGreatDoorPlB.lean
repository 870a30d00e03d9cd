/- The lexer on lists of bytes: additional blanks and capital letters change no token, but for its offset. -/
import Derived.Test.YtjojihadnplllaaGreatDoorPlA
namespace Go.Proofs.YtjojihadnplllaaGreatDoor

theorem all_u8 {p : UInt8 → Bool} (h : (List.range 256).all (fun n => p (UInt8.ofNat n)) = true) (c : UInt8) : p c = true := by
  have := List.all_eq_true.1 h c.toNat (List.mem_range.2 c.toNat_lt)
  simpa using this

/-- The first n bytes are there, and each has the property. -/
def All (q : UInt8 → Bool) (n : Nat) (y : List UInt8) : Prop := n ≤ y.length ∧ ∀ c ∈ y.take n, q c = true

theorem All.run {p q : UInt8 → Bool} (h : ∀ c, p c = true → q c = true) : ∀ y : List UInt8, All q (runLen p y) y
  | [] => ⟨Nat.le_refl _, fun c hc => by simp at hc⟩
  | a :: y => by
    have ih := All.run h y
    unfold runLen at ih ⊢
    by_cases ha : p a = true
    · rw [List.takeWhile_cons, if_pos ha]
      refine ⟨by have := ih.1; simp at this ⊢; omega, fun c hc => ?_⟩
      simp only [List.length_cons, List.take_succ_cons, List.mem_cons] at hc
      rcases hc with rfl | hc
      · exact h _ ha
      · exact ih.2 c hc
    · rw [List.takeWhile_cons, if_neg ha]
      exact ⟨by simp, fun c hc => by simp at hc⟩
theorem All.add {q : UInt8 → Bool} {a b : Nat} {y : List UInt8} (h : All q a y) (k : All q b (y.drop a)) : All q (a + b) y := by
  refine ⟨by have := h.1; have := k.1; simp at this; omega, fun c hc => ?_⟩
  rw [List.take_add] at hc
  rcases List.mem_append.1 hc with hc | hc
  · exact h.2 c hc
  · exact k.2 c hc
theorem All.one {q : UInt8 → Bool} {c : UInt8} {r : List UInt8} (h : q c = true) : All q 1 (c :: r) :=
  ⟨by simp, fun d hd => by simp at hd; subst hd; exact h⟩
theorem All.zero {q : UInt8 → Bool} {y : List UInt8} : All q 0 y := ⟨Nat.zero_le _, fun c hc => by simp at hc⟩

theorem atIs_drop (p : UInt8 → Bool) (l : List UInt8) (f k : Nat) : atIs p (l.drop f) k = atIs p l (f + k) := by
  unfold atIs; rw [List.getElem?_drop]
theorem atIs_cons {p : UInt8 → Bool} {y : List UInt8} {k : Nat} (h : atIs p y k = true) : ∃ c r, y.drop k = c :: r ∧ p c = true := by
  have h' : atIs p (y.drop k) 0 = true := by rw [atIs_drop]; exact h
  cases hd : y.drop k with
  | nil => rw [hd] at h'; cases h'
  | cons c r => rw [hd] at h'; exact ⟨c, r, rfl, h'⟩

/-- The next token of a text without blanks ahead: its kind (4: a quoted word), and how many bytes it takes. -/
def lexN (l : List UInt8) : Option (Int × Nat) :=
  match l with
  | [] => some (3, 0)
  | c :: r =>
    if isLet c = true then some (0, runLen isWrd (c :: r))
    else if c = 34 then
      if atIs (· == 34) (c :: r) (1 + runLen isPln r) = true then some (4, 1 + runLen isPln r + 1) else none
    else if isDig c = true then
      if (atIs (· == 46) (c :: r) (runLen isDig (c :: r)) && atIs isDig (c :: r) (runLen isDig (c :: r) + 1)) = true then
        some (1, runLen isDig (c :: r) + (1 + runLen isDig ((c :: r).drop (runLen isDig (c :: r) + 1))))
      else some (1, runLen isDig (c :: r))
    else if isSgn c = true then some (2, 1)
    else none
theorem lexN_cons (c : UInt8) (r : List UInt8) : lexN (c :: r) = if isLet c = true then some (0, runLen isWrd (c :: r))
    else if c = 34 then
      if atIs (· == 34) (c :: r) (1 + runLen isPln r) = true then some (4, 1 + runLen isPln r + 1) else none
    else if isDig c = true then
      if (atIs (· == 46) (c :: r) (runLen isDig (c :: r)) && atIs isDig (c :: r) (runLen isDig (c :: r) + 1)) = true then
        some (1, runLen isDig (c :: r) + (1 + runLen isDig ((c :: r).drop (runLen isDig (c :: r) + 1))))
      else some (1, runLen isDig (c :: r))
    else if isSgn c = true then some (2, 1)
    else none := rfl
/-- Its kind, its text, and what is left. -/
def lexL (l : List UInt8) : Option (Int × List UInt8 × List UInt8) :=
  match lexN l with
  | none => none
  | some (k, n) => some (if k = 4 then 0 else k, if k = 0 then lowL (l.take n) else l.take n, l.drop n)

/-- The tokens without their offsets. -/
def scanE : Nat → List UInt8 → List (Int × ByteArray) → Int ⊕ List (Int × ByteArray)
  | 0, _, _ => .inl 0
  | n + 1, l, out =>
    match lexL (l.dropWhile (· == 32)) with
    | none => .inl 4
    | some (k, t, r) => if out.length = 256 then .inl 5 else if k = 3 then .inr (out ++ [(k, ⟨t.toArray⟩)]) else scanE n r (out ++ [(k, ⟨t.toArray⟩)])

def Tok.er (t : Tok) : Int × ByteArray := (t.kind, t.text)
def SRes.er : SRes → Int ⊕ List (Int × ByteArray)
  | .ok ts => .inr (ts.map Tok.er)
  | .err _ e => .inl e

theorem sim_of_er : ∀ {ts us : List Tok}, ts.map Tok.er = us.map Tok.er → Sim ts us
  | [], [], _ => trivial
  | [], _ :: _, h => by simp at h
  | _ :: _, [], h => by simp at h
  | t :: ts, u :: us, h => by
    simp only [List.map_cons, List.cons.injEq] at h
    exact ⟨by simpa [Tok.er] using h.1, sim_of_er h.2⟩
theorem SSim.of_er {a b : SRes} (h : a.er = b.er) : SSim a b := by
  cases a <;> cases b <;> simp only [SRes.er, Sum.inl.injEq, Sum.inr.injEq, reduceCtorEq] at h
  · exact sim_of_er h
  · exact h

theorem runLen_drop (p : UInt8 → Bool) (l : List UInt8) : l.drop (runLen p l) = l.dropWhile p := by
  unfold runLen
  induction l with
  | nil => rfl
  | cons a l ih =>
    by_cases h : p a = true
    · simp [h, ih]
    · simp [h]

theorem extract_mk (s : ByteArray) (f n : Nat) : s.extract f (f + n) = ⟨((s.data.toList.drop f).take n).toArray⟩ := by
  have : (s.extract f (f + n)).data.toList = (s.data.toList.drop f).take n := by
    simp [ByteArray.data_extract, List.take_drop]
  generalize s.extract f (f + n) = x at *
  cases x with
  | mk d => simp at this; rw [← this]

/-- A token as the list's form gives it. -/
theorem tokFrom_lex (s : ByteArray) (f : Nat) (hf : f ≤ s.size) : match lexN (s.data.toList.drop f) with
    | none => (tokFrom s f).1 = none
    | some (k, n) => tokFrom s f = (some ⟨if k = 4 then 0 else k, ⟨(if k = 0 then lowL ((s.data.toList.drop f).take n) else (s.data.toList.drop f).take n).toArray⟩, f⟩, f + n) ∧ f + n ≤ s.size := by
  have hlen : s.data.toList.length = s.size := rfl
  cases hl : s.data.toList.drop f with
  | nil =>
    have : s.data.toList.length ≤ f := by
      have := congrArg List.length hl
      simp at this; omega
    obtain rfl : f = s.size := by omega
    refine ⟨?_, by omega⟩
    rw [tokFrom_end, show s.extract s.size s.size = _ from extract_mk s s.size 0]
    simp
  | cons c r =>
    have hlt : f < s.data.toList.length := by
      have := congrArg List.length hl
      simp at this; omega
    have hc : s.data.toList[f]? = some c := by
      have : (s.data.toList.drop f)[0]? = some c := by rw [hl]; rfl
      rw [List.getElem?_drop] at this; simpa using this
    have hr : s.data.toList.drop (f + 1) = r := by
      rw [← List.drop_drop, hl]; rfl
    have hall : ∀ q n, All q n (c :: r) → f + n ≤ s.size := fun q n h => by
      have h1 := h.1
      have h2 := congrArg List.length hl
      rw [List.length_drop] at h2
      omega
    have hat : ∀ (p : UInt8 → Bool) k, atIs p s.data.toList (f + k) = atIs p (c :: r) k := fun p k => by rw [← hl, atIs_drop]
    have hex : ∀ n, s.extract f (f + n) = ⟨((c :: r).take n).toArray⟩ := fun n => by rw [extract_mk, hl]
    have tr : ∀ (p : UInt8 → Bool) (x : UInt8), p x = true → (fun _ => true) x = true := fun _ _ _ => rfl
    rw [lexN_cons]
    by_cases h1 : isLet c = true
    · rw [if_pos h1, tokFrom_let hc h1, hl, hex]
      exact ⟨rfl, hall _ _ (All.run (tr isWrd) (c :: r))⟩
    · rw [if_neg h1]
      by_cases h2 : c = 34
      · rw [if_pos h2, tokFrom_quote hc h1 h2, hr, Nat.add_assoc f 1, hat]
        by_cases hq : atIs (· == 34) (c :: r) (1 + runLen isPln r) = true
        · rw [if_pos hq, if_pos hq, Nat.add_assoc f, hex]
          refine ⟨rfl, hall (fun _ => true) _ (((All.one rfl).add (All.run (tr isPln) r)).add ?_)⟩
          obtain ⟨d, q, hd, _⟩ := atIs_cons hq
          rw [hd]; exact All.one rfl
        · rw [if_neg hq, if_neg hq]
      · rw [if_neg h2]
        by_cases h3 : isDig c = true
        · have hd2 : s.data.toList.drop (f + runLen isDig (c :: r) + 1) = (c :: r).drop (runLen isDig (c :: r) + 1) := by rw [← hl, List.drop_drop, Nat.add_assoc]
          rw [if_pos h3, tokFrom_dig hc h1 h2 h3, hl, hd2, Nat.add_assoc f, hat, hat]
          by_cases hq : (atIs (· == 46) (c :: r) (runLen isDig (c :: r)) && atIs isDig (c :: r) (runLen isDig (c :: r) + 1)) = true
          · rw [if_pos hq, if_pos hq, Nat.add_assoc f, Nat.add_assoc (runLen isDig (c :: r)), hex]
            refine ⟨rfl, hall (fun _ => true) _ ((All.run (tr isDig) (c :: r)).add ?_)⟩
            simp only [Bool.and_eq_true] at hq
            obtain ⟨d, q, hd, _⟩ := atIs_cons hq.1
            rw [hd]
            refine (All.one rfl).add ?_
            have : (c :: r).drop (runLen isDig (c :: r) + 1) = (d :: q).drop 1 := by rw [← hd, List.drop_drop]
            rw [this]
            exact All.run (tr isDig) _
          · rw [if_neg hq, if_neg hq, hex]
            exact ⟨rfl, hall _ _ (All.run (tr isDig) (c :: r))⟩
        · rw [if_neg h3]
          by_cases h4 : isSgn c = true
          · rw [if_pos h4, tokFrom_sgn hc h1 h2 h3 h4, hex]
            exact ⟨rfl, hall (fun _ => true) _ (All.one rfl)⟩
          · rw [if_neg h4, tokFrom_none hc h1 h2 h3 h4]

theorem scanFrom_er (s : ByteArray) : ∀ (n k : Nat) (out : List Tok), k ≤ s.size → (scanFrom s n k out).er = scanE n (s.data.toList.drop k) (out.map Tok.er)
  | 0, _, _, _ => rfl
  | n + 1, k, out, hk => by
    have h1 := runLen_le (· == 32) s k hk
    have h2 := tokFrom_lex s (k + runLen (· == 32) (s.data.toList.drop k)) h1
    have hd : s.data.toList.drop (k + runLen (· == 32) (s.data.toList.drop k)) = (s.data.toList.drop k).dropWhile (· == 32) := by rw [← List.drop_drop, runLen_drop]
    rw [hd] at h2
    unfold scanFrom scanE lexL
    unfold tokNext
    generalize (s.data.toList.drop k).dropWhile (· == 32) = y at *
    generalize k + runLen (· == 32) (s.data.toList.drop k) = f at *
    cases hx : lexN y with
    | none =>
      rw [hx] at h2
      generalize tokFrom s f = z at h2 ⊢
      obtain ⟨o, e⟩ := z
      simp only at h2
      subst h2
      rfl
    | some x =>
      obtain ⟨kd, m⟩ := x
      rw [hx] at h2
      obtain ⟨h3, h4⟩ := h2
      rw [h3]
      simp only [List.length_map]
      by_cases h5 : out.length = 256
      · rw [if_pos h5, if_pos h5]; rfl
      · rw [if_neg h5, if_neg h5]
        by_cases h6 : (if kd = 4 then (0 : Int) else kd) = 3
        · rw [if_pos h6, if_pos h6]; simp [SRes.er, Tok.er]
        · rw [if_neg h6, if_neg h6, scanFrom_er s n (f + m) _ h4, ← List.drop_drop, hd]
          simp [Tok.er]

theorem scan_er (s : ByteArray) (h : s.size ≤ 4096) : (scan s).er = scanE 257 s.data.toList [] := by
  unfold scan
  rw [if_neg (by omega), scanFrom_er s 257 0 [] (Nat.zero_le _)]
  rfl

/-- What a token's bytes have in common. -/
theorem lexN_all {q : UInt8 → Bool} {y : List UInt8} {k : Int} {n : Nat} (h : lexN y = some (k, n)) (hq : ∀ c ∈ y, c ≠ 34) (h1 : k = 0 → ∀ c, isWrd c = true → q c = true) (h2 : ∀ c, isDig c = true → q c = true)
    (h3 : q 46 = true) (h4 : ∀ c, isSgn c = true → q c = true) : All q n y ∧ k ≠ 4 := by
  unfold lexN at h
  split at h
  · cases h; exact ⟨All.zero, by decide⟩
  · rename_i c r
    split at h
    · cases h; exact ⟨All.run (h1 rfl) _, by decide⟩
    · split at h
      · rename_i hc; exact absurd hc (hq c (List.mem_cons_self ..))
      · split at h
        · split at h
          · rename_i hat
            cases h
            refine ⟨(All.run h2 _).add ?_, by decide⟩
            simp only [Bool.and_eq_true] at hat
            obtain ⟨d, z, hd, hd46⟩ := atIs_cons hat.1
            rw [hd]
            refine (All.one ?_).add ?_
            · simp at hd46; rw [hd46]; exact h3
            · have : (c :: r).drop (runLen isDig (c :: r) + 1) = (d :: z).drop 1 := by rw [← hd, List.drop_drop]
              rw [this]
              exact All.run h2 _
          · cases h; exact ⟨All.run h2 _, by decide⟩
        · split at h
          · rename_i hs; cases h; exact ⟨All.one (h4 _ hs), by decide⟩
          · cases h

/-! Additional blanks. -/
def wide : List UInt8 → List UInt8
  | [] => [32, 32]
  | c :: r => (if c = 32 then [32, 32, 32] else [c]) ++ wide r

theorem wide_cons {c : UInt8} (hc : c ≠ 32) (y : List UInt8) : wide (c :: y) = c :: wide y := by
  show (if c = 32 then [32, 32, 32] else [c]) ++ wide y = _
  rw [if_neg hc]; rfl
theorem wide_drop : ∀ (n : Nat) (y : List UInt8), All (· != 32) n y → (wide y).take n = y.take n ∧ (wide y).drop n = wide (y.drop n)
  | 0, _, _ => ⟨by simp, by simp⟩
  | n + 1, [], h => by have := h.1; simp at this
  | n + 1, c :: y, h => by
    have hc : c ≠ 32 := by simpa using h.2 c (by simp)
    have ih := wide_drop n y ⟨by have := h.1; simpa using this, fun d hd => h.2 d (by simp [hd])⟩
    rw [wide_cons hc]
    exact ⟨by simp [ih.1], by simp [ih.2]⟩
theorem wide_at (p : UInt8 → Bool) (hp : p 32 = false) (y : List UInt8) : atIs p (wide y) 0 = atIs p y 0 := by
  cases y with
  | nil => exact hp
  | cons c y =>
    unfold wide
    by_cases hc : c = 32
    · rw [if_pos hc, hc]; rfl
    · rw [if_neg hc]; rfl
theorem wide_atN (p : UInt8 → Bool) (hp : p 32 = false) (y : List UInt8) {n : Nat} (h : All (· != 32) n y) : atIs p (wide y) n = atIs p y n := by
  have h1 := wide_at p hp (y.drop n)
  rw [← (wide_drop n y h).2, atIs_drop, atIs_drop] at h1
  exact h1
theorem wide_run (p : UInt8 → Bool) (hp : p 32 = false) : ∀ y : List UInt8, runLen p (wide y) = runLen p y
  | [] => by simp [wide, runLen, hp]
  | c :: y => by
    have ih := wide_run p hp y
    unfold runLen at ih ⊢
    unfold wide
    by_cases hc : c = 32
    · rw [if_pos hc, hc]; simp [hp]
    · rw [if_neg hc]
      by_cases h : p c = true
      · simp [h, ih]
      · simp [h]
theorem wrd_nb : ∀ c, isWrd c = true → (c != 32) = true := fun c h => by
  have := all_u8 (p := fun c => !isWrd c || c != 32) (by decide +kernel) c
  rw [h] at this; simpa using this
theorem dig_nb : ∀ c, isDig c = true → (c != 32) = true := fun c h => by
  have := all_u8 (p := fun c => !isDig c || c != 32) (by decide +kernel) c
  rw [h] at this; simpa using this
theorem sgn_nb : ∀ c, isSgn c = true → (c != 32) = true := fun c h => by
  have := all_u8 (p := fun c => !isSgn c || c != 32) (by decide +kernel) c
  rw [h] at this; simpa using this

/-- A token in a text with additional blanks. -/
theorem wide_lex {c : UInt8} {r : List UInt8} (hc : c ≠ 32) (hq : c ≠ 34) : lexN (wide (c :: r)) = lexN (c :: r) := by
  have hw := wide_cons hc r
  have hr1 := wide_run isWrd (by decide) (c :: r)
  have hr2 := wide_run isDig (by decide) (c :: r)
  have ha := wide_atN (· == 46) (by decide) (c :: r) (All.run dig_nb (c :: r))
  rw [hw] at hr1 hr2 ha ⊢
  rw [lexN_cons, lexN_cons]
  by_cases h1 : isLet c = true
  · simp only [if_pos h1, hr1]
  · simp only [if_neg h1, if_neg hq]
    by_cases h3 : isDig c = true
    · simp only [if_pos h3, hr2, ha]
      by_cases h46 : atIs (· == 46) (c :: r) (runLen isDig (c :: r)) = true
      · obtain ⟨d, z, hd, hd46⟩ := atIs_cons h46
        have hall : All (· != 32) (runLen isDig (c :: r) + 1) (c :: r) := (All.run dig_nb _).add (by
          rw [hd]; refine All.one ?_; simp at hd46; rw [hd46]; decide)
        have hb := wide_atN isDig (by decide) (c :: r) hall
        have hdr := (wide_drop _ _ hall).2
        have hr3 := wide_run isDig (by decide) ((c :: r).drop (runLen isDig (c :: r) + 1))
        rw [← hdr] at hr3
        rw [hw] at hb hr3
        simp only [h46, hb, hr3, Bool.true_and]
      · have h46' : atIs (· == 46) (c :: r) (runLen isDig (c :: r)) = false := by simpa using h46
        simp only [h46', Bool.false_and, Bool.false_eq_true, if_false]
    · simp only [if_neg h3]
theorem wide_blank : ∀ y : List UInt8, (wide y).dropWhile (· == 32) = if y.dropWhile (· == 32) = [] then [] else wide (y.dropWhile (· == 32))
  | [] => by decide
  | c :: y => by
    have ih := wide_blank y
    by_cases hc : c = 32
    · subst hc
      show ([32, 32, 32] ++ wide y).dropWhile (· == 32) = _
      simpa [List.dropWhile_cons] using ih
    · have hw := wide_cons hc y
      have h1 : (c :: y).dropWhile (· == 32) = c :: y := by rw [List.dropWhile_cons, if_neg (by simpa using hc)]
      have h2 : (c :: wide y).dropWhile (· == 32) = c :: wide y := by rw [List.dropWhile_cons, if_neg (by simpa using hc)]
      rw [h1, hw, h2, if_neg (by simp)]
theorem dropW_head (p : UInt8 → Bool) : ∀ {y : List UInt8} {c : UInt8} {r : List UInt8}, y.dropWhile p = c :: r → p c = false ∧ ∀ x ∈ c :: r, x ∈ y
  | [], _, _, h => by simp at h
  | a :: y, c, r, h => by
    by_cases ha : p a = true
    · rw [List.dropWhile_cons, if_pos ha] at h
      obtain ⟨h1, h2⟩ := dropW_head p h
      exact ⟨h1, fun x hx => List.mem_cons_of_mem _ (h2 x hx)⟩
    · rw [List.dropWhile_cons, if_neg ha] at h
      cases h
      exact ⟨by simpa using ha, fun x hx => hx⟩
theorem scanE_wide : ∀ (n : Nat) (y : List UInt8) (out : List (Int × ByteArray)), (∀ c ∈ y, c ≠ 34) → scanE n (wide y) out = scanE n y out
  | 0, _, _, _ => rfl
  | n + 1, y, out, hq => by
    unfold scanE
    rw [wide_blank]
    cases hd : y.dropWhile (· == 32) with
    | nil => rw [if_pos rfl]
    | cons c r =>
      obtain ⟨hc, hsub⟩ := dropW_head _ hd
      have hc' : c ≠ 32 := by simpa using hc
      have hq' : ∀ x ∈ c :: r, x ≠ 34 := fun x hx => hq x (hsub x hx)
      rw [if_neg (by simp)]
      unfold lexL
      rw [wide_lex hc' (hq' c (List.mem_cons_self ..))]
      cases hx : lexN (c :: r) with
      | none => rfl
      | some x =>
        obtain ⟨k, m⟩ := x
        obtain ⟨hall, _⟩ := lexN_all (q := (· != 32)) hx hq' (fun _ => wrd_nb) dig_nb (by decide) sgn_nb
        obtain ⟨ht, hdr⟩ := wide_drop m (c :: r) hall
        simp only [ht, hdr]
        rw [scanE_wide n _ _ (fun x hx => hq' x (List.mem_of_mem_drop hx))]
theorem scanE_blank (n : Nat) (y : List UInt8) (out : List (Int × ByteArray)) : scanE (n + 1) (32 :: y) out = scanE (n + 1) y out := by
  unfold scanE
  rw [List.dropWhile_cons, if_pos (by decide)]

/-! Capital letters. -/
def upB (c : UInt8) : UInt8 := if isLow c = true then c - 32 else c

theorem up_run (p : UInt8 → Bool) (hp : ∀ c, p (upB c) = p c) : ∀ y : List UInt8, runLen p (y.map upB) = runLen p y
  | [] => rfl
  | c :: y => by
    have ih := up_run p hp y
    unfold runLen at ih ⊢
    rw [List.map_cons, List.takeWhile_cons, List.takeWhile_cons, hp]
    split
    · simp [ih]
    · rfl
theorem up_at (p : UInt8 → Bool) (hp : ∀ c, p (upB c) = p c) (y : List UInt8) (k : Nat) : atIs p (y.map upB) k = atIs p y k := by
  unfold atIs
  rw [List.getElem?_map]
  cases y[k]? with
  | none => rfl
  | some c => exact hp c
theorem up_let (c : UInt8) : isLet (upB c) = isLet c := by
  have := all_u8 (p := fun c => isLet (upB c) == isLet c) (by decide +kernel) c; simpa using this
theorem up_wrd (c : UInt8) : isWrd (upB c) = isWrd c := by
  have := all_u8 (p := fun c => isWrd (upB c) == isWrd c) (by decide +kernel) c; simpa using this
theorem up_dig (c : UInt8) : isDig (upB c) = isDig c := by
  have := all_u8 (p := fun c => isDig (upB c) == isDig c) (by decide +kernel) c; simpa using this
theorem up_sgn (c : UInt8) : isSgn (upB c) = isSgn c := by
  have := all_u8 (p := fun c => isSgn (upB c) == isSgn c) (by decide +kernel) c; simpa using this
theorem up_eq (d : UInt8) (h : isLet d = false) (c : UInt8) : (upB c == d) = (c == d) := by
  unfold upB
  split
  · rename_i hc
    have h1 : (c == d) = false := by
      simp; rintro rfl; unfold isLet at h; rw [hc] at h; simp at h
    have h2 : (c - 32 == d) = false := by
      simp; rintro rfl
      have := all_u8 (p := fun c => !isLow c || isLet (c - 32)) (by decide +kernel) c
      rw [hc, h] at this; simp at this
    rw [h1, h2]
  · rfl
theorem up_low (c : UInt8) : lowB (upB c) = lowB c := by
  have := all_u8 (p := fun c => lowB (upB c) == lowB c) (by decide +kernel) c; simpa using this
theorem up_id (c : UInt8) (h : (!isLow c) = true) : upB c = c := by
  unfold upB; rw [if_neg (by simpa using h)]
theorem up_lex {y : List UInt8} (hq : ∀ c ∈ y, c ≠ 34) : lexN (y.map upB) = lexN y := by
  have hr1 := up_run isWrd up_wrd y
  have hr2 := up_run isDig up_dig y
  have ha := up_at (· == 46) (up_eq 46 (by decide)) y
  have hb := up_at isDig up_dig y
  cases y with
  | nil => rfl
  | cons c r =>
    have hc := hq c (List.mem_cons_self ..)
    have hc' : upB c ≠ 34 := fun e => hc (by have := up_eq 34 (by decide) c; rw [e] at this; simpa using this.symm)
    have hr3 : runLen isDig (((c :: r).map upB).drop (runLen isDig (c :: r) + 1)) = runLen isDig ((c :: r).drop (runLen isDig (c :: r) + 1)) := by
      rw [← List.map_drop]; exact up_run isDig up_dig _
    simp only [List.map_cons] at hr1 hr2 ha hb hr3 ⊢
    rw [lexN_cons, lexN_cons]
    simp only [up_let, hr1, if_neg hc, if_neg hc', up_dig, hr2, ha, hb, hr3, up_sgn]
theorem low_up (l : List UInt8) : lowL (l.map upB) = lowL l := by
  unfold lowL
  rw [List.map_map]
  exact List.map_congr_left fun c _ => up_low c
theorem map_id_of {f : UInt8 → UInt8} : ∀ {l : List UInt8}, (∀ c ∈ l, f c = c) → l.map f = l
  | [], _ => rfl
  | c :: l, h => by rw [List.map_cons, h c (List.mem_cons_self ..), map_id_of fun d hd => h d (List.mem_cons_of_mem _ hd)]
theorem dig_nl : ∀ c, isDig c = true → (!isLow c) = true := fun c h => by
  have := all_u8 (p := fun c => !isDig c || !isLow c) (by decide +kernel) c
  rw [h] at this; simpa using this
theorem sgn_nl : ∀ c, isSgn c = true → (!isLow c) = true := fun c h => by
  have := all_u8 (p := fun c => !isSgn c || !isLow c) (by decide +kernel) c
  rw [h] at this; simpa using this
theorem up_blank : ∀ y : List UInt8, (y.map upB).dropWhile (· == 32) = (y.dropWhile (· == 32)).map upB
  | [] => rfl
  | c :: y => by
    rw [List.map_cons, List.dropWhile_cons, List.dropWhile_cons, up_eq 32 (by decide), up_blank y]
    split <;> rfl
theorem dropW_mem (p : UInt8 → Bool) (y : List UInt8) : ∀ x ∈ y.dropWhile p, x ∈ y := fun _ hx => (List.dropWhile_sublist p).mem hx
theorem scanE_up : ∀ (n : Nat) (y : List UInt8) (out : List (Int × ByteArray)), (∀ c ∈ y, c ≠ 34) → scanE n (y.map upB) out = scanE n y out
  | 0, _, _, _ => rfl
  | n + 1, y, out, hq => by
    unfold scanE lexL
    have hq' : ∀ x ∈ y.dropWhile (· == 32), x ≠ 34 := fun x hx => hq x (dropW_mem _ y x hx)
    rw [up_blank, up_lex hq']
    cases hx : lexN (y.dropWhile (· == 32)) with
    | none => rfl
    | some x =>
      obtain ⟨k, m⟩ := x
      have ht : (if k = 0 then lowL (((y.dropWhile (· == 32)).map upB).take m) else ((y.dropWhile (· == 32)).map upB).take m) = if k = 0 then lowL ((y.dropWhile (· == 32)).take m) else (y.dropWhile (· == 32)).take m := by
        rw [← List.map_take, low_up]
        by_cases hk : k = 0
        · rw [if_pos hk, if_pos hk]
        · rw [if_neg hk, if_neg hk]
          obtain ⟨hall, _⟩ := lexN_all (q := fun c => !isLow c) hx hq' (fun h => absurd h hk) dig_nl (by decide) sgn_nl
          exact map_id_of fun c hc => up_id c (hall.2 c hc)
      simp only [ht, ← List.map_drop]
      rw [scanE_up n _ _ (fun x hx => hq' x (List.mem_of_mem_drop hx))]

/-! A text that has tokens holds ASCII alone. -/
theorem wrd_asc : ∀ c, isWrd c = true → decide (c < 128) = true := fun c h => by
  have := all_u8 (p := fun c => !isWrd c || decide (c < 128)) (by decide +kernel) c
  rw [h] at this; simpa using this
theorem dig_asc : ∀ c, isDig c = true → decide (c < 128) = true := fun c h => by
  have := all_u8 (p := fun c => !isDig c || decide (c < 128)) (by decide +kernel) c
  rw [h] at this; simpa using this
theorem sgn_asc : ∀ c, isSgn c = true → decide (c < 128) = true := fun c h => by
  have := all_u8 (p := fun c => !isSgn c || decide (c < 128)) (by decide +kernel) c
  rw [h] at this; simpa using this
theorem takeW_mem (p : UInt8 → Bool) : ∀ (l : List UInt8) (x : UInt8), x ∈ l.takeWhile p → p x = true
  | [], _, h => by simp at h
  | a :: l, x, h => by
    by_cases ha : p a = true
    · rw [List.takeWhile_cons, if_pos ha] at h
      rcases List.mem_cons.1 h with rfl | h
      · exact ha
      · exact takeW_mem p l x h
    · rw [List.takeWhile_cons, if_neg ha] at h; simp at h
theorem scanE_asc : ∀ (n : Nat) (y : List UInt8) (out : List (Int × ByteArray)) (ts : List (Int × ByteArray)), (∀ c ∈ y, c ≠ 34) → scanE n y out = .inr ts → ∀ c ∈ y, c < 128
  | 0, _, _, _, _, h => by simp [scanE] at h
  | n + 1, y, out, ts, hq, h => by
    unfold scanE lexL at h
    have hq' : ∀ x ∈ y.dropWhile (· == 32), x ≠ 34 := fun x hx => hq x (dropW_mem _ y x hx)
    have key : ∀ c ∈ y, c = 32 ∨ c ∈ y.dropWhile (· == 32) := fun c hc => by
      rw [← List.takeWhile_append_dropWhile (p := (· == 32)) (l := y)] at hc
      rcases List.mem_append.1 hc with hc | hc
      · exact Or.inl (by simpa using takeW_mem _ _ _ hc)
      · exact Or.inr hc
    cases hx : lexN (y.dropWhile (· == 32)) with
    | none => rw [hx] at h; simp at h
    | some x =>
      obtain ⟨k, m⟩ := x
      rw [hx] at h
      obtain ⟨hall, h4⟩ := lexN_all (q := fun c => decide (c < 128)) hx hq' (fun _ => wrd_asc) dig_asc (by decide) sgn_asc
      simp only [if_neg h4] at h
      split at h
      · cases h
      · intro c hc
        rcases key c hc with rfl | hc
        · decide
        · rw [← List.take_append_drop m (y.dropWhile (· == 32))] at hc
          rcases List.mem_append.1 hc with hc | hc
          · simpa using hall.2 c hc
          · split at h
            · rename_i hk
              have : m = 0 ∧ y.dropWhile (· == 32) = [] := by
                subst hk
                unfold lexN at hx
                split at hx
                · rename_i he; cases hx; exact ⟨rfl, he⟩
                · (repeat' split at hx) <;> cases hx
              rw [this.2] at hc; simp at hc
            · exact scanE_asc n _ _ ts (fun x hx => hq' x (List.mem_of_mem_drop hx)) h c hc
/-! The tokens of a text end with the only end; their texts are short. -/
theorem tokNext_size {s : ByteArray} {k : Nat} {t : Tok} {e : Nat} (hk : k ≤ s.size) (h : tokNext s k = (some t, e)) : t.text.size ≤ s.size ∧ e ≤ s.size := by
  have h1 := runLen_le (· == 32) s k hk
  have h2 := tokFrom_lex s _ h1
  have hlen : s.data.toList.length = s.size := rfl
  unfold tokNext at h
  generalize k + runLen (· == 32) (s.data.toList.drop k) = f at *
  cases hx : lexN (s.data.toList.drop f) with
  | none => rw [hx] at h2; simp only [h] at h2; cases h2
  | some x =>
    obtain ⟨kd, n⟩ := x
    rw [hx] at h2
    obtain ⟨h3, h4⟩ := h2
    rw [h3] at h
    cases h
    refine ⟨?_, h4⟩
    have : ((s.data.toList.drop f).take n).length ≤ s.size := by rw [List.length_take, List.length_drop]; omega
    show (if kd = 0 then lowL ((s.data.toList.drop f).take n) else (s.data.toList.drop f).take n).toArray.size ≤ s.size
    rw [List.size_toArray]
    split
    · rw [lowL, List.length_map]; exact this
    · exact this
theorem scanFrom_right (s : ByteArray) : ∀ (n k : Nat) (out ts : List Tok), k ≤ s.size → (∀ t ∈ out, t.kind ≠ 3) → (∀ t ∈ out, t.text.size ≤ s.size) → out.length ≤ 256 → scanFrom s n k out = .ok ts →
    (∃ l e, ts = l ++ [e] ∧ e.kind = 3 ∧ ∀ t ∈ l, t.kind ≠ 3) ∧ (∀ t ∈ ts, t.text.size ≤ s.size) ∧ ts.length ≤ 257
  | 0, _, _, _, _, _, _, _, h => by cases h
  | n + 1, k, out, ts, hk, h1, h2, h3, h => by
    unfold scanFrom at h
    split at h
    · cases h
    · rename_i t e ht
      obtain ⟨h4, h5⟩ := tokNext_size hk ht
      have hall : ∀ x ∈ out ++ [t], x.text.size ≤ s.size := fun x hx => by
        rcases List.mem_append.1 hx with hx | hx
        · exact h2 x hx
        · rw [List.mem_singleton.1 hx]; exact h4
      split at h
      · cases h
      · rename_i hne
        split at h
        · rename_i hk3
          cases h
          exact ⟨⟨out, t, rfl, hk3, h1⟩, hall, by simp; omega⟩
        · rename_i hk3
          refine scanFrom_right s n e (out ++ [t]) ts h5 (fun x hx => ?_) hall (by simp; omega) h
          rcases List.mem_append.1 hx with hx | hx
          · exact h1 x hx
          · rw [List.mem_singleton.1 hx]; exact hk3
theorem scan_right {s : ByteArray} {ts : List Tok} (h : scan s = .ok ts) : Right ts := by
  unfold scan at h
  split at h
  · cases h
  · rename_i hs
    obtain ⟨h1, h2, h3⟩ := scanFrom_right s 257 0 [] ts (Nat.zero_le _) (by simp) (by simp) (by simp) h
    exact ⟨h1, fun t ht => Nat.le_trans (h2 t ht) (by omega), by omega⟩
end Go.Proofs.YtjojihadnplllaaGreatDoor
