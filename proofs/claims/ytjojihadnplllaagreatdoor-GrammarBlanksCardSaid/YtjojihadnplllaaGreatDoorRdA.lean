/- The small methods of the reader of tokens (grammar): next, pass, fail, is, sign, slash, number, must: what each call does. -/
import Derived.Test.YtjojihadnplllaaGreatDoorBase
namespace Go.Proofs.YtjojihadnplllaaGreatDoor
open Go.RowKit Go

def tokV (t : Tok) : Value := .agg #[.int .i64 t.kind, .string t.text, .int .i64 t.pos]
@[go_sem] theorem fld_tok0 (a b c : Value) (w : World) : (Instr.field 136 (.agg #[a, b, c]) 0).run Tryz.prog w = .ok a w := by kernel_rfl
@[go_sem] theorem fld_tok1 (a b c : Value) (w : World) : (Instr.field 136 (.agg #[a, b, c]) 1).run Tryz.prog w = .ok b w := by kernel_rfl
@[go_sem] theorem fld_tok2 (a b c : Value) (w : World) : (Instr.field 136 (.agg #[a, b, c]) 2).run Tryz.prog w = .ok c w := by kernel_rfl

theorem Rd.pass {w : World} {rb b o c : Nat} {v : Value} {ts : List Tok} (hL : Laid w) (hG : 12 ≤ rb) (hr : rb < w.heap.size) (hb : b < rb)
    (hf : w.frozen? ⟨rb, 0, none⟩ = false) (h0 : w.cell? ⟨rb, 0, none⟩ = some v) (hl : ts.length + 1 ≤ c) (h4 : tokRow w b (o + 3) ts) (x y : Obj) :
    Rd (((w.setCell ⟨rb, 0, none⟩ (.slice (some ⟨b, o + 3, none⟩) ts.length (c - 1))).alloc x).alloc y) rb ts := by
  have he := ((((Ext.refl rb w).setCell (p := ⟨rb, 0, none⟩) (Or.inl rfl) (.slice (some ⟨b, o + 3, none⟩) ts.length (c - 1))).alloc x).alloc y)
  have hk := he.block
  refine ⟨hL.ext hG he, hG, by simp; omega, ?_, b, o + 3, c - 1, hb, by omega, ?_, tokRow.keep (hk b (by omega) (by omega)) ts _ h4⟩
  · rw [World.frozen?_alloc_past _ _ _ (by simp; omega), World.frozen?_alloc_past _ _ _ (by simp; omega)]; simp [hf]
  · rw [World.cell?_alloc_past _ _ _ (by simp; omega), World.cell?_alloc_past _ _ _ (by simp; omega)]
    exact World.cell?_setCell_same w _ _ h0

set_option maxHeartbeats 400000 in
theorem next_any {rb : Nat} {t : Tok} {ts : List Tok} {w : World} (h : Rd w rb (t :: ts)) :
    Calls Tryz.prog 93 #[.pointer (some ⟨rb, 0, none⟩)] w fun e w' => e = .returned (tokV t) ∧ Below w.heap.size w w' := by
  obtain ⟨hL, hG, hr, hf, b, o, c, hb, hlc, h0, ⟨h1, h2, h3⟩, _⟩ := h
  have hbs : b < w.heap.size := Nat.lt_trans hb hr
  have hne : b ≠ rb := Nat.ne_of_lt hb
  obtain ⟨k, t, i⟩ := t
  simp only [List.length_cons] at h0 hlc h1 h2 h3
  go_enter Tryz.func93, Tryz.ntmps93
  go_wp2
  exact bodyPost_ret (v := .agg #[.int .i64 k,.string t,.int .i64 i]) (by simp [results, Tryz.results93, go_sem]) rfl ⟨rfl, (Below.refl _ _).alloc (Nat.le_refl _) _⟩

set_option maxHeartbeats 400000 in
theorem pass_any {rb : Nat} {t : Tok} {ts : List Tok} {w : World} (h : Rd w rb (t :: ts)) (hR : Right (t :: ts)) (ht : t.kind ≠ 3) :
    Calls Tryz.prog 97 #[.pointer (some ⟨rb, 0, none⟩)] w (Post rb w (.ok t ts) repTok) := by
  have hl := hR.len ht
  have hR' := hR.tail ht
  clear hR ht
  obtain ⟨hL, hG, hr, hf, b, o, c, hb, hlc, h0, ⟨h1, h2, h3⟩, h4⟩ := h
  have hbs : b < w.heap.size := Nat.lt_trans hb hr
  have hne : b ≠ rb := Nat.ne_of_lt hb
  obtain ⟨k, t, i⟩ := t
  simp only [List.length_cons] at h0 hlc h1 h2 h3
  have hc1 : ¬ c = 1 := by omega
  have H4 : Hid (tokRow w b (o + 3) ts) := h4
  have HL := Lib.hid hL
  clear h4 hL
  have HR : Hid (Right ts) := hR'
  clear hR'
  go_enter Tryz.func97, Tryz.ntmps97
  go_wp2
  refine bodyPost_ret (v := .agg #[.int .i64 k,.string t,.int .i64 i]) (by simp [results, Tryz.results97, go_sem]) rfl ?_
  refine Post.mkOk rfl rfl ?_ ?_ HR.out
  · exact (((Ext.refl rb w).setCell (p := ⟨rb, 0, none⟩) (Or.inl rfl) _).alloc _).alloc _
  · exact Rd.pass HL.out hG hr hb hf h0 hlc H4.out _ _

set_option maxHeartbeats 400000 in
theorem fail_any {rb : Nat} {t : Tok} {ts : List Tok} {w : World} (er : Int) (h : Rd w rb (t :: ts)) :
    Calls Tryz.prog 94 #[.pointer (some ⟨rb, 0, none⟩), .int .i64 er] w fun e w' => e = failE t.pos er ∧ Below w.heap.size w w' := by
  have H := Lib.hid h; clear h
  go_enter Tryz.func94, Tryz.ntmps94
  go_wp2_with fail
  refine (next_any H.out).mono ?_
  rintro e w1 ⟨rfl, hb⟩
  unfold tokV
  go_wp2
  exact ⟨rfl, rfl, hb⟩

/-- Are two texts equal? (As the walk spells it.) -/
def sEq (a b : ByteArray) : Bool := a.toList == b.toList
/-- Has a token this kind and this text? -/
def tokIs (t : Tok) (k : Int) (s : ByteArray) : Bool := (t.kind == k) && sEq t.text s

set_option maxHeartbeats 400000 in
theorem is_any {rb : Nat} {t : Tok} {ts : List Tok} {w : World} (k : Int) (s : ByteArray) (h : Rd w rb (t :: ts)) :
    Calls Tryz.prog 245 #[.pointer (some ⟨rb, 0, none⟩), .int .i64 k, .string s] w fun e w' => e = .returned (.bool (tokIs t k s)) ∧ Below w.heap.size w w' := by
  have H := Lib.hid h; clear h
  by_cases hk : (t.kind == k) = true
  · have hk2 : tokIs t k s = sEq t.text s := by unfold tokIs; rw [hk]; rfl
    rw [hk2]; clear hk2
    go_enter Tryz.func245, Tryz.ntmps245
    go_wp2_with fail
    refine (next_any H.out).mono ?_
    rintro e w1 ⟨rfl, hb⟩
    have H1 := Lib.hid (H.out.below hb)
    have HB := Lib.hid hb; clear hb
    unfold tokV
    go_wp2_with fail
    refine (next_any H1.out).mono ?_
    rintro e w2 ⟨rfl, hb2⟩
    unfold tokV
    go_wp2_with fail
    go_ret
    exact ⟨rfl, HB.out.trans (hb2.mono HB.out.size)⟩
  · have hk3 : (t.kind == k) = false := by simpa using hk
    have hk2 : tokIs t k s = false := by unfold tokIs; rw [hk3]; rfl
    rw [hk2]; clear hk2 hk
    go_enter Tryz.func245, Tryz.ntmps245
    go_wp2_with fail
    refine (next_any H.out).mono ?_
    rintro e w1 ⟨rfl, hb⟩
    unfold tokV
    go_wp2_with fail
    go_ret
    exact ⟨rfl, hb⟩

/-- sign: goes over a sign, if it stands next. -/
def signP (s : ByteArray) (ts : List Tok) : Res Bool :=
  if tokIs (hd ts) 2 s then .ok true ts.tail else .ok false ts

set_option maxHeartbeats 400000 in
theorem sign_any {rb : Nat} {ts : List Tok} {w : World} (s : ByteArray) (h : Rd w rb ts) (hR : Right ts) :
    Calls Tryz.prog 165 #[.pointer (some ⟨rb, 0, none⟩), .string s] w (Post rb w (signP s ts) repBool) := by
  obtain ⟨t, l, rfl⟩ := hR.cons
  have H := Lib.hid h; clear h
  have HR := Lib.hid hR; clear hR
  by_cases hk : tokIs t 2 s = true
  · have hp : signP s (t :: l) = .ok true l := by unfold signP; exact if_pos hk
    have h3 : t.kind ≠ 3 := by
      unfold tokIs at hk; simp at hk; omega
    rw [hp]; clear hp
    have HK := Lib.hid hk; clear hk
    have H3 := Lib.hid h3; clear h3
    go_enter Tryz.func165, Tryz.ntmps165
    go_wp2_with fail
    refine (is_any 2 s H.out).mono ?_
    rintro e w1 ⟨rfl, hb⟩
    rw [HK.out]
    have HB := Lib.hid hb; clear hb
    have H1 := Lib.hid (H.out.below HB.out)
    go_wp2_with fail
    refine Post.step (pass_any H1.out HR.out H3.out) ?_ ?_
    · intro a ts v w2 hr hv he hrd hri
      go_wp2_with fail
      go_ret
      cases hr
      exact Post.mkOk rfl rfl ((Ext.of_below HB.out).trans he) hrd hri
    · intro p e w2 hr
      exact absurd hr (by simp)
  · have hp : signP s (t :: l) = .ok false (t :: l) := by unfold signP; exact if_neg hk
    have hk3 : tokIs t 2 s = false := by simpa using hk
    rw [hp]; clear hp hk
    have HK := Lib.hid hk3; clear hk3
    go_enter Tryz.func165, Tryz.ntmps165
    go_wp2_with fail
    refine (is_any 2 s H.out).mono ?_
    rintro e w1 ⟨rfl, hb⟩
    rw [HK.out]
    have HB := Lib.hid hb; clear hb
    go_wp2_with fail
    go_ret
    exact Post.mkOk rfl rfl (Ext.of_below HB.out) (H.out.below HB.out) HR.out

/-- number: the text of a number, which has to stand next. -/
def numberP (ts : List Tok) : Res ByteArray :=
  if (hd ts).kind = 1 then .ok (hd ts).text ts else .err (hd ts).pos 4

set_option maxHeartbeats 400000 in
theorem number_any {rb : Nat} {ts : List Tok} {w : World} (h : Rd w rb ts) (hR : Right ts) :
    Calls Tryz.prog 265 #[.pointer (some ⟨rb, 0, none⟩)] w (Post rb w (numberP ts) repStr) := by
  obtain ⟨t, l, rfl⟩ := hR.cons
  have H := Lib.hid h; clear h
  have HR := Lib.hid hR; clear hR
  by_cases hk : t.kind = 1
  · have hp := Lib.hid (show numberP (t :: l) = .ok t.text (t :: l) from if_pos hk)
    have hk' : (t.kind != 1) = false := by rw [hk]; rfl
    clear hk
    go_enter Tryz.func265, Tryz.ntmps265
    go_wp2_with fail
    refine (next_any H.out).mono ?_
    rintro e w1 ⟨rfl, hb⟩
    have H1 := Lib.hid (H.out.below hb)
    have HB := Lib.hid hb; clear hb
    unfold tokV
    go_wp2_with fail
    refine (next_any H1.out).mono ?_
    rintro e w2 ⟨rfl, hb2⟩
    unfold tokV
    go_wp2_with fail
    go_ret
    exact Post.mkOk hp.out rfl ((Ext.of_below HB.out).trans (Ext.of_below hb2)) (H1.out.below hb2) HR.out
  · have hp := Lib.hid (show numberP (t :: l) = .err t.pos 4 from if_neg hk)
    have hk' : (t.kind != 1) = true := by simpa using hk
    clear hk
    go_enter Tryz.func265, Tryz.ntmps265
    go_wp2_with fail
    refine (next_any H.out).mono ?_
    rintro e w1 ⟨rfl, hb⟩
    have H1 := Lib.hid (H.out.below hb)
    have HB := Lib.hid hb; clear hb
    unfold tokV
    go_wp2_with fail
    refine (fail_any 4 H1.out).mono ?_
    rintro e w2 ⟨rfl, hb2⟩
    exact ⟨rfl, Post.mkErr hp.out ((Ext.of_below HB.out).trans (Ext.of_below hb2))⟩

/-- must: the end of reading with an error, if there is one; a wrong form is a syntax error. -/
def mustP (e : Int) (ts : List Tok) : Res Unit :=
  if e = 0 then .ok () ts else if e = 3 then .err (hd ts).pos 4 else .err (hd ts).pos e

set_option maxHeartbeats 400000 in
theorem must_any {rb : Nat} {ts : List Tok} {w : World} (er : Int) (h : Rd w rb ts) (hR : Right ts) :
    Calls Tryz.prog 267 #[.pointer (some ⟨rb, 0, none⟩), .int .i64 er] w (Post rb w (mustP er ts) repUnit) := by
  obtain ⟨t, l, rfl⟩ := hR.cons
  have H := Lib.hid h; clear h
  have HR := Lib.hid hR; clear hR
  by_cases h0 : er = 0
  · have hp := Lib.hid (show mustP er (t :: l) = .ok () (t :: l) from if_pos h0)
    have hk' : (er == 0) = true := by rw [h0]; rfl
    clear h0
    go_enter Tryz.func267, Tryz.ntmps267
    go_wp2_with fail
    go_end0
    exact Post.mkOk hp.out rfl (Ext.refl _ _) H.out HR.out
  · by_cases h3 : er = 3
    · have hp := Lib.hid (show mustP er (t :: l) = .err t.pos 4 from (if_neg h0).trans (if_pos h3))
      have hk0 : (er == 0) = false := by simpa using h0
      have hk3 : (er == 3) = true := by rw [h3]; rfl
      clear h0 h3
      go_enter Tryz.func267, Tryz.ntmps267
      go_wp2_with fail
      refine (fail_any 4 H.out).mono ?_
      rintro e w2 ⟨rfl, hb2⟩
      exact ⟨rfl, Post.mkErr hp.out (Ext.of_below hb2)⟩
    · have hp := Lib.hid (show mustP er (t :: l) = .err t.pos er from (if_neg h0).trans (if_neg h3))
      have hk0 : (er == 0) = false := by simpa using h0
      have hk3 : (er == 3) = false := by simpa using h3
      clear h0 h3
      go_enter Tryz.func267, Tryz.ntmps267
      go_wp2_with fail
      refine (fail_any er H.out).mono ?_
      rintro e w2 ⟨rfl, hb2⟩
      exact ⟨rfl, Post.mkErr hp.out (Ext.of_below hb2)⟩

/-- slash: goes over a slash, which has to be there. -/
def slashP (ts : List Tok) : Res Unit :=
  (signP ⟨#[47]⟩ ts).bind fun b ts' => if b = true then .ok () ts' else .err (hd ts').pos 4

set_option maxHeartbeats 400000 in
theorem slash_any {rb : Nat} {ts : List Tok} {w : World} (h : Rd w rb ts) (hR : Right ts) :
    Calls Tryz.prog 271 #[.pointer (some ⟨rb, 0, none⟩)] w (Post rb w (slashP ts) repUnit) := by
  have H := Lib.hid h; clear h
  have HR := Lib.hid hR; clear hR
  go_enter Tryz.func271, Tryz.ntmps271
  go_wp2_with fail
  refine Post.step (sign_any _ H.out HR.out) ?_ ?_
  · rintro a ts1 v w1 hr rfl he hrd hri
    have HR1 := Lib.hid hr; clear hr
    have HE := Lib.hid he; clear he
    have HD := Lib.hid hrd; clear hrd
    have HI := Lib.hid hri; clear hri
    cases a
    · go_wp2_with fail
      obtain ⟨t, l, rfl⟩ := HI.out.cons
      refine (fail_any 4 HD.out).mono ?_
      rintro e w2 ⟨rfl, hb2⟩
      exact ⟨rfl, Post.mkErr (by unfold slashP; rw [HR1.out]; rfl) (HE.out.trans (Ext.of_below hb2))⟩
    · go_wp2_with fail
      go_end0
      exact Post.mkOk (by unfold slashP; rw [HR1.out]; rfl) rfl HE.out HD.out HI.out
  · intro p e w2 hr he
    exact ⟨rfl, Post.mkErr (by unfold slashP; rw [hr]; rfl) he⟩

/-- Block b holds these texts. -/
def strRow (w : World) (b : Nat) (ws : List ByteArray) : Prop := ∀ k, k < ws.length → w.cell? ⟨b, k, none⟩ = some (.string (ws.getD k ⟨#[]⟩))

/-- word: the one of some words that stands next is gone over; none: the empty text. -/
def wordP (ws : List ByteArray) (ts : List Tok) : Res ByteArray :=
  match ws.find? (tokIs (hd ts) 0) with
  | some s => .ok s ts.tail
  | none => .ok ⟨#[]⟩ ts

theorem wordP_some {ws : List ByteArray} {t : Tok} {ts : List Tok} {k : Nat} (hk : k < ws.length) (h : ∀ j, j < k → tokIs t 0 (ws.getD j ⟨#[]⟩) = false) (hy : tokIs t 0 (ws.getD k ⟨#[]⟩) = true) :
    wordP ws (t :: ts) = .ok (ws.getD k ⟨#[]⟩) ts := by
  have : ws.find? (tokIs t 0) = some (ws.getD k ⟨#[]⟩) := by
    rw [List.find?_eq_some_iff_getElem]
    have e : ws.getD k ⟨#[]⟩ = ws[k] := by simp [List.getD, hk]
    refine ⟨hy, k, hk, e.symm, fun j hj => ?_⟩
    have := h j hj
    simp only [List.getD, List.getElem?_eq_getElem (Nat.lt_trans hj hk), Option.getD_some] at this
    simp [this]
  show (match ws.find? (tokIs t 0) with | some s => Res.ok s ts | none => .ok ⟨#[]⟩ (t :: ts)) = _
  rw [this]
theorem wordP_none {ws : List ByteArray} {t : Tok} {ts : List Tok} (h : ∀ j, j < ws.length → tokIs t 0 (ws.getD j ⟨#[]⟩) = false) :
    wordP ws (t :: ts) = .ok ⟨#[]⟩ (t :: ts) := by
  have : ws.find? (tokIs t 0) = none := by
    rw [List.find?_eq_none]
    intro x hx
    obtain ⟨j, hj, rfl⟩ := List.getElem_of_mem hx
    have := h j hj
    simp only [List.getD, List.getElem?_eq_getElem hj, Option.getD_some] at this
    simp [this]
  show (match ws.find? (tokIs t 0) with | some s => Res.ok s ts | none => .ok ⟨#[]⟩ (t :: ts)) = _
  rw [this]

set_option maxHeartbeats 400000 in
theorem word_any {rb b c : Nat} {ts : List Tok} {ws : List ByteArray} {w : World} (h : Rd w rb ts) (hR : Right ts) (hb : b < w.heap.size) (hw : strRow w b ws) (hn : ws.length < 1000) :
    Calls Tryz.prog 186 #[.pointer (some ⟨rb, 0, none⟩), .slice (some ⟨b, 0, none⟩) ws.length c] w (Post rb w (wordP ws ts) repStr) := by
  obtain ⟨t, l, rfl⟩ := hR.cons
  have H := Lib.hid h; clear h
  have HR := Lib.hid hR; clear hR
  have HW := Lib.hid hw; clear hw
  go_enter Tryz.func186, Tryz.ntmps186
  go_wp2_with fail
  go_loopw [9] (fun i wr => ∃ k : Nat, k ≤ ws.length ∧ i = .int .i64 k ∧ (∀ j, j < k → tokIs t 0 (ws.getD j ⟨#[]⟩) = false) ∧ Below w.heap.size w wr) (fun i _ => ws.length - (intOf i).toNat)
  case atStart => exact ⟨0, Nat.zero_le _, rfl, fun j hj => absurd hj (by omega), Below.refl _ _⟩
  case round =>
    obtain ⟨k, hk, rfl, hno, hbl⟩ := hrel
    have HNO := Lib.hid hno; clear hno
    have HBL := Lib.hid hbl; clear hbl
    by_cases hlt : k < ws.length
    · have hcell : wr.cell? ⟨b, k, none⟩ = some (.string (ws.getD k ⟨#[]⟩)) := by rw [HBL.out.cell (p := ⟨b, k, none⟩) hb]; exact HW.out k hlt
      generalize hs : ws.getD k ⟨#[]⟩ = s at hcell
      have HS := Lib.hid hs; clear hs
      have H1 := Lib.hid (H.out.below HBL.out)
      by_cases hy : tokIs t 0 s = true
      · have HY := Lib.hid hy; clear hy
        go_wp2_with fail
        refine (is_any 0 s H1.out).mono ?_
        rintro e w1 ⟨rfl, hb1⟩
        rw [HY.out]
        have HB := Lib.hid hb1; clear hb1
        have H2 := Lib.hid (H1.out.below HB.out)
        go_wp2_with fail
        refine Post.step (pass_any H2.out HR.out (by have := HY.out; unfold tokIs at this; simp at this; omega)) ?_ ?_
        · intro a ts v w2 hr hv he hrd hri
          go_wp2_with fail
          go_ret
          cases hr
          refine Post.mkOk (wordP_some hlt HNO.out (by rw [HS.out]; exact HY.out)) ?_ ((Ext.of_below HBL.out).trans ((Ext.of_below HB.out).trans he)) hrd hri
          rw [HS.out]; rfl
        · intro p e w2 hr
          exact absurd hr (by simp)
      · have HY := Lib.hid (show tokIs t 0 s = false by simpa using hy); clear hy
        go_wp2_with fail
        refine (is_any 0 s H1.out).mono ?_
        rintro e w1 ⟨rfl, hb1⟩
        rw [HY.out]
        have HB := Lib.hid hb1; clear hb1
        go_wp2_with fail
        go_roundw
        case rel =>
          refine ⟨k + 1, by omega, by go_num, fun j hj => ?_, HBL.out.trans (HB.out.mono HBL.out.size)⟩
          by_cases hjk : j = k
          · subst hjk; rw [HS.out]; exact HY.out
          · exact HNO.out j (by omega)
        case measure => simp [intOf]; omega
    · obtain rfl : k = ws.length := by omega
      go_wp2_with fail
      go_ret
      exact Post.mkOk (wordP_none HNO.out) rfl (Ext.of_below HBL.out) (H.out.below HBL.out) HR.out

/-- need: goes over one of some words, which has to be there. -/
def needP (ws : List ByteArray) (ts : List Tok) : Res ByteArray :=
  (wordP ws ts).bind fun s ts' => if s.toList.isEmpty = true then .err (hd ts').pos 4 else .ok s ts'

set_option maxHeartbeats 400000 in
theorem need_any {rb b c : Nat} {ts : List Tok} {ws : List ByteArray} {w : World} (h : Rd w rb ts) (hR : Right ts) (hb : b < w.heap.size) (hw : strRow w b ws) (hn : ws.length < 1000) :
    Calls Tryz.prog 185 #[.pointer (some ⟨rb, 0, none⟩), .slice (some ⟨b, 0, none⟩) ws.length c] w (Post rb w (needP ws ts) repStr) := by
  have H := Lib.hid h; clear h
  have HR := Lib.hid hR; clear hR
  have HW := Lib.hid hw; clear hw
  go_enter Tryz.func185, Tryz.ntmps185
  go_wp2_with fail
  refine Post.step (word_any H.out HR.out hb HW.out hn) ?_ ?_
  · rintro a ts1 v w1 hr rfl he hrd hri
    have HR1 := Lib.hid hr; clear hr
    have HE := Lib.hid he; clear he
    have HD := Lib.hid hrd; clear hrd
    have HI := Lib.hid hri; clear hri
    by_cases hz : a.toList.isEmpty = true
    · go_wp2_with fail
      obtain ⟨t, l, rfl⟩ := HI.out.cons
      refine (fail_any 4 HD.out).mono ?_
      rintro e w2 ⟨rfl, hb2⟩
      exact ⟨rfl, Post.mkErr (by unfold needP; rw [HR1.out, Res.bind_ok, if_pos hz]; rfl) (HE.out.trans (Ext.of_below hb2))⟩
    · have hz' : a.toList.isEmpty = false := by simpa using hz
      go_wp2_with fail
      go_ret
      exact Post.mkOk (by unfold needP; rw [HR1.out, Res.bind_ok, if_neg hz]) rfl HE.out HD.out HI.out
  · intro p e w2 hr he
    exact ⟨rfl, Post.mkErr (by unfold needP; rw [hr]; rfl) he⟩
end Go.Proofs.YtjojihadnplllaaGreatDoor
