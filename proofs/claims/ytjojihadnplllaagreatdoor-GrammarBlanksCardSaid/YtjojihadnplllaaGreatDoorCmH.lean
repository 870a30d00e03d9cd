/- The method of grammar's reader that reads a command. -/
import Derived.Test.YtjojihadnplllaaGreatDoorCmG
import Derived.Deep.RegionWith
namespace Go.Proofs.YtjojihadnplllaaGreatDoor
open Go.RowKit Go Go.Shelf Go.Proofs

/-- The verbs, and which method reads what stands behind each. -/
def verbTab : List (ByteArray × Nat) := [(⟨#[99, 108, 101, 97, 114]⟩, 190), (⟨#[114, 101, 99, 111, 114, 100]⟩, 191), (⟨#[117, 112, 100, 97, 116, 101]⟩, 192), (⟨#[100, 101, 108, 101, 116, 101]⟩, 193), (⟨#[112, 97, 116, 99, 104]⟩, 194), (⟨#[98, 108, 97, 99, 107, 111, 117, 116]⟩, 195), (⟨#[103, 111]⟩, 197), (⟨#[98, 97, 99, 107]⟩, 197), (⟨#[112, 97, 117, 115, 101]⟩, 197), (⟨#[114, 101, 115, 117, 109, 101]⟩, 197), (⟨#[114, 101, 118, 101, 114, 115, 101]⟩, 197), (⟨#[103, 111, 116, 111]⟩, 197), (⟨#[114, 97, 116, 101]⟩, 197), (⟨#[114, 101, 108, 101, 97, 115, 101]⟩, 197), (⟨#[108, 105, 115, 116]⟩, 198), (⟨#[115, 117, 98]⟩, 198), (⟨#[109, 97, 115, 116, 101, 114]⟩, 198), (⟨#[101, 102, 102, 101, 99, 116]⟩, 199), (⟨#[115, 116, 111, 112]⟩, 199), (⟨#[117, 110, 100, 111]⟩, 200), (⟨#[114, 101, 100, 111]⟩, 200)]
def findN (s : ByteArray) : List (ByteArray × Nat) → Option Nat
  | [] => none
  | (k, n) :: r => if s = k then some n else findN s r
def fval (rb n : Nat) : Value := .func (.func n) #[.pointer (some ⟨rb, 0, none⟩)] #[]
theorem kvm3_tab (rb : Nat) : kvm3 rb = verbTab.map fun x => (x.1, fval rb x.2) := rfl
theorem findKV_none {rb : Nat} {s : ByteArray} : ∀ {l : List (ByteArray × Nat)} (i : Nat), findN s l = none → findKV s (l.map fun x => (x.1, fval rb x.2)) i = none
  | [], _, _ => rfl
  | (k, n) :: r, i, h => by
    unfold findN at h
    show (if s = k then some (i, fval rb n) else findKV s (r.map fun x => (x.1, fval rb x.2)) (i + 1)) = none
    split at h
    · cases h
    · rename_i hk
      rw [if_neg hk]; exact findKV_none (i + 1) h
theorem findKV_some {rb : Nat} {s : ByteArray} {m : Nat} : ∀ {l : List (ByteArray × Nat)} (i : Nat), findN s l = some m → ∃ j, findKV s (l.map fun x => (x.1, fval rb x.2)) i = some (j, fval rb m)
  | [], _, h => by cases h
  | (k, n) :: r, i, h => by
    unfold findN at h
    show ∃ j, (if s = k then some (i, fval rb n) else findKV s (r.map fun x => (x.1, fval rb x.2)) (i + 1)) = some (j, fval rb m)
    split at h
    · rename_i hk
      cases h
      exact ⟨i, if_pos hk⟩
    · rename_i hk
      rw [if_neg hk]; exact findKV_some (i + 1) h
theorem findN_mem {s : ByteArray} {m : Nat} : ∀ {l : List (ByteArray × Nat)}, findN s l = some m → m ∈ l.map (·.2)
  | [], h => by cases h
  | (k, n) :: r, h => by
    unfold findN at h
    split at h
    · cases h; simp
    · exact List.mem_cons_of_mem _ (findN_mem h)
theorem verb_nums {s : ByteArray} {m : Nat} (h : findN s verbTab = some m) : m = 190 ∨ m = 191 ∨ m = 192 ∨ m = 193 ∨ m = 194 ∨ m = 195 ∨ m = 197 ∨ m = 198 ∨ m = 199 ∨ m = 200 := by
  have h1 := findN_mem h
  simp only [verbTab, List.map_cons, List.map_nil, List.mem_cons, List.not_mem_nil, or_false] at h1
  omega

/-- The call of verbs, its map looked up. -/
theorem verbs_hit {rb tb n n0 : Nat} {s : ByteArray} (w : World) (hn0 : w.heap.size = n0) (hT : w.cell? ⟨tb, 1, none⟩ = some (.string s)) (hn : findN s verbTab = some n) :
    Calls Tryz.prog 96 #[.pointer (some ⟨rb, 0, none⟩)] w fun e w' => e = .returned (.map (some n0)) ∧ w'.cell? ⟨tb, 1, none⟩ = some (.string s) ∧
      (Instr.lookup 153 (.map (some n0)) (.string s) true).run Tryz.prog w' = .ok (.tuple #[.func (.func n) #[.pointer (some ⟨rb, 0, none⟩)] #[], .bool true]) w' ∧ Hid (Below w.heap.size w w') := by
  subst hn0
  refine verbs_any.mono ?_
  rintro e w' ⟨rfl, hm, hb⟩
  obtain ⟨j, hj⟩ := findKV_some (rb := rb) 0 hn
  have hf : Instr.findNow .string (.string s) (entriesFrom 0 (kvm3 rb)).toArray.toList 0 = some (some (j, fval rb n)) := (findNow_entries s (kvm3 rb) 0 0).trans (by rw [kvm3_tab, hj])
  refine ⟨rfl, ?_, run_lookup_hit 153 9 151 _ _ _ s j _ true w' Tryz.underlying153 Tryz.underlying9 hm hf, Lib.hid hb⟩
  rw [hb.cell (p := ⟨tb, 1, none⟩) (lt_of_cell hT)]; exact hT
theorem verbs_miss {rb tb n0 : Nat} {s : ByteArray} (w : World) (hn0 : w.heap.size = n0) (hT : w.cell? ⟨tb, 1, none⟩ = some (.string s)) (hn : findN s verbTab = none) :
    Calls Tryz.prog 96 #[.pointer (some ⟨rb, 0, none⟩)] w fun e w' => e = .returned (.map (some n0)) ∧ w'.cell? ⟨tb, 1, none⟩ = some (.string s) ∧
      (Instr.lookup 153 (.map (some n0)) (.string s) true).run Tryz.prog w' = .ok (.tuple #[.nilFunc, .bool false]) w' ∧ Hid (Below w.heap.size w w') := by
  subst hn0
  refine verbs_any.mono ?_
  rintro e w' ⟨rfl, hm, hb⟩
  have hf : Instr.findNow .string (.string s) (entriesFrom 0 (kvm3 rb)).toArray.toList 0 = some none := (findNow_entries s (kvm3 rb) 0 0).trans (by rw [kvm3_tab, findKV_none 0 hn])
  refine ⟨rfl, ?_, run_lookup_miss 153 9 151 _ _ _ s .nilFunc true w' Tryz.underlying153 Tryz.underlying9 hm (Tryz.zeroValue151 w') hf, Lib.hid hb⟩
  rw [hb.cell (p := ⟨tb, 1, none⟩) (lt_of_cell hT)]; exact hT

theorem selIs_one {lo : Nat} {l : List Sel} {w : World} {sv : Value} (h : selIs lo l w sv) : sv.oneCell' = true := by
  rcases h with ⟨_, rfl⟩ | ⟨b, cap, rfl, _, _⟩ <;> rfl
theorem cmd_one (c : Cmd) {sv : Value} (h : sv.oneCell' = true) : (cmdCells c sv).all (·.oneCell') = true := by
  unfold cmdCells
  simp only [List.all_cons, h, List.all_nil]
  rfl
theorem St.finCmd {rb : Nat} {w0 w : World} {p0 : Res Cmd} {ts : List Tok} {own : List (Nat × List Value)} {d lo1 : Nat} {cm zm : Cmd} {sv zv : Value} (h : St rb w0 p0 (.ok cm ts) ts ((d, cmdCells zm zv) :: own) w) (hs : selIs lo1 cm.sel w sv) (hd : d < lo1) (hlo : w0.heap.size ≤ lo1)
    {f : Func} {a : Act} (k : Nat) (hf : f.results = #[.cell k 29]) (hk : a.tmps.getD k undef = .pointer (some ⟨d, 0, none⟩)) (hdef : a.defers = []) :
    bodyPost Tryz.prog f (Post rb w0 p0 (repCmd w0.heap.size)) .ret a (w.setCells d 0 (cmdCells cm sv)) := by
  have h1 := h.setAll (cmdCells cm sv) rfl
  refine ret_own h1.head k 29 hf hk Tryz.underlying29 rfl size29 hdef (h1.done ⟨sv, rfl, ?_⟩)
  rcases hs with h0 | ⟨b, cap, hv, hb, ho⟩
  · exact Or.inl h0
  · exact Or.inr ⟨b, cap, hv, Nat.le_trans hlo hb, ho.block (by rw [setCells_size]; exact Nat.le_refl _) (setCells_block d _ 0 w b (by omega))⟩

def runVerb (n : Nat) (s : ByteArray) (ts : List Tok) : Res Cmd :=
  match n with
  | 190 => clearP ts
  | 191 => recordP ts
  | 192 => updateP ts
  | 193 => removeP ts
  | 194 => patchP ts
  | 195 => blackoutP s ts
  | 197 => playP s ts
  | 198 => faderP s ts
  | 199 => effectP s ts
  | _ => undoP s ts
def commandP (ts : List Tok) : Res Cmd :=
  if (hd ts).kind = 0 ∧ (hd ts).text.toList ≠ [103, 114, 111, 117, 112] then
    (match findN (hd ts).text verbTab with
    | none => .err (hd ts).pos 4
    | some n => runVerb n (hd ts).text ts.tail)
  else setP ts
theorem bind_ok_self {α : Type} (r : Res α) : (r.bind fun a ts => Res.ok a ts) = r := by cases r <;> rfl

set_option maxRecDepth 100000 in
set_option maxHeartbeats 4000000 in
theorem command_any {rb : Nat} {ts : List Tok} {w : World} (h : Rd w rb ts) (hR : Right ts) :
    Calls Tryz.prog 43 #[.pointer (some ⟨rb, 0, none⟩)] w (Post rb w (commandP ts) (repCmd w.heap.size)) := by
  have H := Lib.hid ((St.start h hR (commandP ts)).alloc (cmdCells cmd0 (.slice none 0 0)) 29); clear h hR
  by_cases hk : (hd ts).kind = 0
  · by_cases hg : (hd ts).text.toList = [103, 114, 111, 117, 112]
    · have H0 := Lib.hid (H.out.cast (show commandP ts = (setP ts).bind fun c ts1 => .ok c ts1 by rw [bind_ok_self]; exact if_neg (fun hh => hh.2 hg)))
      have hk' : ((hd ts).kind != 0) = false := by simpa using hk
      have hg' : ((hd ts).text.toList == [103, 114, 111, 117, 112]) = true := by simpa using hg
      clear hk hg H
      go_enter Tryz.func43, Tryz.ntmps43
      go_wp2_with fail
      refine St.next H0.out ?_
      intro w1 H1
      have H2 := Lib.hid (H1.out.alloc [.int .i64 (hd ts).kind, .string (hd ts).text, .int .i64 (hd ts).pos] 136)
      go_wp2_with fail
      refine H2.out.call (set_any H2.out.rd H2.out.right) ?_ (by (intro p e w1 hr he; exact ⟨rfl, Post.mkErr hr he⟩))
      rintro cm ts3 _ w3 _ ⟨sv, rfl, hs⟩ H3
      have hsz := H2.out.ext.size
      have hdl : w.heap.size < (w1.alloc (.cells #[.int .i64 (hd ts).kind, .string (hd ts).text, .int .i64 (hd ts).pos] 136)).heap.size := H2.out.second.lt
      have HS := Lib.hid hs
      clear hs
      go_wp2_with (((with_reducible refine at_st (ty := 29) ?_); refine wpl_store (ty := 29) (cs := ?_) (St.second H3.out) ?_ ?_ ?_ ?_ ?_ ?_; rotate_left; exact rfl; exact rfl; exact rfl; exact size29; exact (cmd_one _ (selIs_one HS.out))))
      refine St.finCmd H3.out.swap HS.out hdl hsz 2 ?_ ?_ ?_ <;> rfl
    · have hk' : ((hd ts).kind != 0) = false := by simpa using hk
      have hg' : ((hd ts).text.toList == [103, 114, 111, 117, 112]) = false := by simpa using hg
      have HK := Lib.hid (show (hd ts).kind ≠ 3 by omega)
      cases hn : findN (hd ts).text verbTab with
      | none =>
        have H0 := Lib.hid (H.out.cast (show commandP ts = .err (hd ts).pos 4 by unfold commandP; rw [if_pos ⟨hk, hg⟩, hn]))
        clear hk hg H
        go_enter Tryz.func43, Tryz.ntmps43
        go_wp2_with fail
        refine St.next H0.out ?_
        intro w1 H1
        have H2 := Lib.hid (H1.out.alloc [.int .i64 (hd ts).kind, .string (hd ts).text, .int .i64 (hd ts).pos] 136)
        go_wp2_with fail
        have hT := H2.out.head.cell (k := 1) rfl
        trace_state
        clear H1 H0
        generalize w1.alloc (.cells #[.int .i64 (hd ts).kind, .string (hd ts).text, .int .i64 (hd ts).pos] 136) = W at *
        generalize w1.heap.size = tb at *
        go_region_with (go_at_call 96; refine (verbs_miss (n0 := W.heap.size) W.drew rfl (by simpa using hT) hn).mono ?_; rintro e w3 ⟨rfl, hc3, hl3, hb3⟩)
        all_goals
          have H3 := Lib.hid (H2.out.drew.below hb3.out)
          clear hb3 hc3 hl3 hT H2
          go_wp2_with fail
          exact St.fail H3.out (by (intro p e w1 hr he; exact ⟨rfl, Post.mkErr hr he⟩))
      | some n =>
        have H0 := Lib.hid (H.out.cast (show commandP ts = runVerb n (hd ts).text ts.tail by unfold commandP; rw [if_pos ⟨hk, hg⟩, hn]))
        clear hk hg H
        go_enter Tryz.func43, Tryz.ntmps43
        go_wp2_with fail
        refine St.next H0.out ?_
        intro w1 H1
        have H2 := Lib.hid (H1.out.alloc [.int .i64 (hd ts).kind, .string (hd ts).text, .int .i64 (hd ts).pos] 136)
        go_wp2_with fail
        have hT := H2.out.head.cell (k := 1) rfl
        clear H1 H0
        generalize w1.alloc (.cells #[.int .i64 (hd ts).kind, .string (hd ts).text, .int .i64 (hd ts).pos] 136) = W at *
        generalize w1.heap.size = tb at *
        go_region_with (go_at_call 96; refine (verbs_hit (n0 := W.heap.size) W.drew rfl (by simpa using hT) hn).mono ?_; rintro e w3 ⟨rfl, hc3, hl3, hb3⟩)
        all_goals
          have H3 := Lib.hid (H2.out.drew.below hb3.out)
          clear hb3 hc3 hl3 hT H2
          go_wp2_with fail
          refine St.pass H3.out HK.out ?_
          intro w4 H4
          have hT := H4.out.head.cell (k := 1) rfl
          have hsz := H4.out.ext.size
          have hdl := H4.out.second.lt
          rcases verb_nums hn with rfl | rfl | rfl | rfl | rfl | rfl | rfl | rfl | rfl | rfl
          · have H5 := Lib.hid (H4.out.cast (show runVerb 190 (hd ts).text ts.tail = (clearP ts.tail).bind fun c ts1 => .ok c ts1 by rw [bind_ok_self]; rfl))
            go_wp2_with fail
            refine H5.out.call (clear_any _ H5.out.rd H5.out.right) ?_ (by (intro p e w1 hr he; exact ⟨rfl, Post.mkErr hr he⟩))
            rintro cm ts3 _ w3 _ ⟨sv, rfl, hs⟩ H6
            have HS := Lib.hid hs
            clear hs
            go_wp2_with (((with_reducible refine at_st (ty := 29) ?_); refine wpl_store (ty := 29) (cs := ?_) (St.second H6.out) ?_ ?_ ?_ ?_ ?_ ?_; rotate_left; exact rfl; exact rfl; exact rfl; exact size29; exact (cmd_one _ (selIs_one HS.out))))
            refine St.finCmd H6.out.swap HS.out hdl hsz 2 ?_ ?_ ?_ <;> rfl
          · have H5 := Lib.hid (H4.out.cast (show runVerb 191 (hd ts).text ts.tail = (recordP ts.tail).bind fun c ts1 => .ok c ts1 by rw [bind_ok_self]; rfl))
            go_wp2_with fail
            refine H5.out.call (record_any _ H5.out.rd H5.out.right) ?_ (by (intro p e w1 hr he; exact ⟨rfl, Post.mkErr hr he⟩))
            rintro cm ts3 _ w3 _ ⟨sv, rfl, hs⟩ H6
            have HS := Lib.hid hs
            clear hs
            go_wp2_with (((with_reducible refine at_st (ty := 29) ?_); refine wpl_store (ty := 29) (cs := ?_) (St.second H6.out) ?_ ?_ ?_ ?_ ?_ ?_; rotate_left; exact rfl; exact rfl; exact rfl; exact size29; exact (cmd_one _ (selIs_one HS.out))))
            refine St.finCmd H6.out.swap HS.out hdl hsz 2 ?_ ?_ ?_ <;> rfl
          · have H5 := Lib.hid (H4.out.cast (show runVerb 192 (hd ts).text ts.tail = (updateP ts.tail).bind fun c ts1 => .ok c ts1 by rw [bind_ok_self]; rfl))
            go_wp2_with fail
            refine H5.out.call (update_any _ H5.out.rd H5.out.right) ?_ (by (intro p e w1 hr he; exact ⟨rfl, Post.mkErr hr he⟩))
            rintro cm ts3 _ w3 _ ⟨sv, rfl, hs⟩ H6
            have HS := Lib.hid hs
            clear hs
            go_wp2_with (((with_reducible refine at_st (ty := 29) ?_); refine wpl_store (ty := 29) (cs := ?_) (St.second H6.out) ?_ ?_ ?_ ?_ ?_ ?_; rotate_left; exact rfl; exact rfl; exact rfl; exact size29; exact (cmd_one _ (selIs_one HS.out))))
            refine St.finCmd H6.out.swap HS.out hdl hsz 2 ?_ ?_ ?_ <;> rfl
          · have H5 := Lib.hid (H4.out.cast (show runVerb 193 (hd ts).text ts.tail = (removeP ts.tail).bind fun c ts1 => .ok c ts1 by rw [bind_ok_self]; rfl))
            go_wp2_with fail
            refine H5.out.call (remove_any _ H5.out.rd H5.out.right) ?_ (by (intro p e w1 hr he; exact ⟨rfl, Post.mkErr hr he⟩))
            rintro cm ts3 _ w3 _ ⟨sv, rfl, hs⟩ H6
            have HS := Lib.hid hs
            clear hs
            go_wp2_with (((with_reducible refine at_st (ty := 29) ?_); refine wpl_store (ty := 29) (cs := ?_) (St.second H6.out) ?_ ?_ ?_ ?_ ?_ ?_; rotate_left; exact rfl; exact rfl; exact rfl; exact size29; exact (cmd_one _ (selIs_one HS.out))))
            refine St.finCmd H6.out.swap HS.out hdl hsz 2 ?_ ?_ ?_ <;> rfl
          · have H5 := Lib.hid (H4.out.cast (show runVerb 194 (hd ts).text ts.tail = (patchP ts.tail).bind fun c ts1 => .ok c ts1 by rw [bind_ok_self]; rfl))
            go_wp2_with fail
            refine H5.out.call (patch_any _ H5.out.rd H5.out.right) ?_ (by (intro p e w1 hr he; exact ⟨rfl, Post.mkErr hr he⟩))
            rintro cm ts3 _ w3 _ ⟨sv, rfl, hs⟩ H6
            have HS := Lib.hid hs
            clear hs
            go_wp2_with (((with_reducible refine at_st (ty := 29) ?_); refine wpl_store (ty := 29) (cs := ?_) (St.second H6.out) ?_ ?_ ?_ ?_ ?_ ?_; rotate_left; exact rfl; exact rfl; exact rfl; exact size29; exact (cmd_one _ (selIs_one HS.out))))
            refine St.finCmd H6.out.swap HS.out hdl hsz 2 ?_ ?_ ?_ <;> rfl
          · have H5 := Lib.hid (H4.out.cast (show runVerb 195 (hd ts).text ts.tail = (blackoutP (hd ts).text ts.tail).bind fun c ts1 => .ok c ts1 by rw [bind_ok_self]; rfl))
            go_wp2_with fail
            refine H5.out.call (blackout_any _ H5.out.rd H5.out.right) ?_ (by (intro p e w1 hr he; exact ⟨rfl, Post.mkErr hr he⟩))
            rintro cm ts3 _ w3 _ ⟨sv, rfl, hs⟩ H6
            have HS := Lib.hid hs
            clear hs
            go_wp2_with (((with_reducible refine at_st (ty := 29) ?_); refine wpl_store (ty := 29) (cs := ?_) (St.second H6.out) ?_ ?_ ?_ ?_ ?_ ?_; rotate_left; exact rfl; exact rfl; exact rfl; exact size29; exact (cmd_one _ (selIs_one HS.out))))
            refine St.finCmd H6.out.swap HS.out hdl hsz 2 ?_ ?_ ?_ <;> rfl
          · have H5 := Lib.hid (H4.out.cast (show runVerb 197 (hd ts).text ts.tail = (playP (hd ts).text ts.tail).bind fun c ts1 => .ok c ts1 by rw [bind_ok_self]; rfl))
            go_wp2_with fail
            refine H5.out.call (play_any _ H5.out.rd H5.out.right) ?_ (by (intro p e w1 hr he; exact ⟨rfl, Post.mkErr hr he⟩))
            rintro cm ts3 _ w3 _ ⟨sv, rfl, hs⟩ H6
            have HS := Lib.hid hs
            clear hs
            go_wp2_with (((with_reducible refine at_st (ty := 29) ?_); refine wpl_store (ty := 29) (cs := ?_) (St.second H6.out) ?_ ?_ ?_ ?_ ?_ ?_; rotate_left; exact rfl; exact rfl; exact rfl; exact size29; exact (cmd_one _ (selIs_one HS.out))))
            refine St.finCmd H6.out.swap HS.out hdl hsz 2 ?_ ?_ ?_ <;> rfl
          · have H5 := Lib.hid (H4.out.cast (show runVerb 198 (hd ts).text ts.tail = (faderP (hd ts).text ts.tail).bind fun c ts1 => .ok c ts1 by rw [bind_ok_self]; rfl))
            go_wp2_with fail
            refine H5.out.call (fader_any _ H5.out.rd H5.out.right) ?_ (by (intro p e w1 hr he; exact ⟨rfl, Post.mkErr hr he⟩))
            rintro cm ts3 _ w3 _ ⟨sv, rfl, hs⟩ H6
            have HS := Lib.hid hs
            clear hs
            go_wp2_with (((with_reducible refine at_st (ty := 29) ?_); refine wpl_store (ty := 29) (cs := ?_) (St.second H6.out) ?_ ?_ ?_ ?_ ?_ ?_; rotate_left; exact rfl; exact rfl; exact rfl; exact size29; exact (cmd_one _ (selIs_one HS.out))))
            refine St.finCmd H6.out.swap HS.out hdl hsz 2 ?_ ?_ ?_ <;> rfl
          · have H5 := Lib.hid (H4.out.cast (show runVerb 199 (hd ts).text ts.tail = (effectP (hd ts).text ts.tail).bind fun c ts1 => .ok c ts1 by rw [bind_ok_self]; rfl))
            go_wp2_with fail
            refine H5.out.call (effect_any _ H5.out.rd H5.out.right) ?_ (by (intro p e w1 hr he; exact ⟨rfl, Post.mkErr hr he⟩))
            rintro cm ts3 _ w3 _ ⟨sv, rfl, hs⟩ H6
            have HS := Lib.hid hs
            clear hs
            go_wp2_with (((with_reducible refine at_st (ty := 29) ?_); refine wpl_store (ty := 29) (cs := ?_) (St.second H6.out) ?_ ?_ ?_ ?_ ?_ ?_; rotate_left; exact rfl; exact rfl; exact rfl; exact size29; exact (cmd_one _ (selIs_one HS.out))))
            refine St.finCmd H6.out.swap HS.out hdl hsz 2 ?_ ?_ ?_ <;> rfl
          · have H5 := Lib.hid (H4.out.cast (show runVerb 200 (hd ts).text ts.tail = (undoP (hd ts).text ts.tail).bind fun c ts1 => .ok c ts1 by rw [bind_ok_self]; rfl))
            go_wp2_with fail
            refine H5.out.call (undo_any _ H5.out.rd H5.out.right) ?_ (by (intro p e w1 hr he; exact ⟨rfl, Post.mkErr hr he⟩))
            rintro cm ts3 _ w3 _ ⟨sv, rfl, hs⟩ H6
            have HS := Lib.hid hs
            clear hs
            go_wp2_with (((with_reducible refine at_st (ty := 29) ?_); refine wpl_store (ty := 29) (cs := ?_) (St.second H6.out) ?_ ?_ ?_ ?_ ?_ ?_; rotate_left; exact rfl; exact rfl; exact rfl; exact size29; exact (cmd_one _ (selIs_one HS.out))))
            refine St.finCmd H6.out.swap HS.out hdl hsz 2 ?_ ?_ ?_ <;> rfl
  · have H0 := Lib.hid (H.out.cast (show commandP ts = (setP ts).bind fun c ts1 => .ok c ts1 by rw [bind_ok_self]; exact if_neg (fun hh => hk hh.1)))
    have hk' : ((hd ts).kind != 0) = true := by simpa using hk
    clear hk H
    go_enter Tryz.func43, Tryz.ntmps43
    go_wp2_with fail
    refine St.next H0.out ?_
    intro w1 H1
    have H2 := Lib.hid (H1.out.alloc [.int .i64 (hd ts).kind, .string (hd ts).text, .int .i64 (hd ts).pos] 136)
    go_wp2_with fail
    refine H2.out.call (set_any H2.out.rd H2.out.right) ?_ (by (intro p e w1 hr he; exact ⟨rfl, Post.mkErr hr he⟩))
    rintro cm ts3 _ w3 _ ⟨sv, rfl, hs⟩ H3
    have hsz := H2.out.ext.size
    have hdl : w.heap.size < (w1.alloc (.cells #[.int .i64 (hd ts).kind, .string (hd ts).text, .int .i64 (hd ts).pos] 136)).heap.size := H2.out.second.lt
    have HS := Lib.hid hs
    clear hs
    go_wp2_with (((with_reducible refine at_st (ty := 29) ?_); refine wpl_store (ty := 29) (cs := ?_) (St.second H3.out) ?_ ?_ ?_ ?_ ?_ ?_; rotate_left; exact rfl; exact rfl; exact rfl; exact size29; exact (cmd_one _ (selIs_one HS.out))))
    refine St.finCmd H3.out.swap HS.out hdl hsz 2 ?_ ?_ ?_ <;> rfl
end Go.Proofs.YtjojihadnplllaaGreatDoor
