/- 'Parse': what it answers for any line. Conditions: those that each theorem states. -/
import Derived.Test.YtifdlbdecjlnaaaDoorTxParts
import Derived.Test.YtifdlbdecjlnaaaDoorPAllx1
namespace Go.Proofs.YtifdlbdecjlnaaaDoor.PAll
open Go.RowKit Go.Proofs.YtifdlbdecjlnaaaDoorW.PrintWords Go.Proofs.YtifdlbdecjlnaaaDoorW.PrintLast Go.Proofs.YtifdlbdecjlnaaaDoorW.PrintMore
set_option linter.unusedVariables false
set_option linter.unusedSimpArgs false
def cmdV (k n m : Int) (t : ByteArray) : Array Value := #[.int .i64 0, .int .i64 0, .int .i64 k, .int .i64 n, .int .i64 m, .string t]
/-- In the midst of 'Parse': the results' blocks, the line's block; of what was there nothing has turned. -/
structure PS (c e b : Nat) (w0 : World) (k n m : Int) (t : ByteArray) (l : List UInt8) (w : World) : Prop where
  os : w.os = w0.os
  tape : w.tape = w0.tape
  output : w.output = w0.output
  size : w0.heap.size ≤ w.heap.size
  block : ∀ k, k < w0.heap.size → w.heap[k]? = w0.heap[k]?
  cmd : w.heap[c]? = some (.cells (cmdV k n m t) 24 (0, 0))
  err : w.heap[e]? = some (.cells #[.int .i64 0] 25 (0, 0))
  line : Ln b l w
  hc : w0.heap.size ≤ c
  he : c < e
  hb : e < b
theorem PS.held {c e b : Nat} {w0 : World} {k n m : Int} {t : ByteArray} {l r : List UInt8} {w w' : World} (h : PS c e b w0 k n m t l w) (g : Held b r w w') : PS c e b w0 k n m t r w' :=
  have hc := h.hc
  have he := h.he
  have hb := h.hb
  ⟨g.os.trans h.os, g.tape.trans h.tape, g.output.trans h.output, Nat.le_trans h.size g.size, fun i hi => (g.block i (Nat.lt_of_lt_of_le hi h.size) (by omega)).trans (h.block i hi), (g.block c (blk_lt h.cmd) (by omega)).trans h.cmd, (g.block e (blk_lt h.err) (by omega)).trans h.err, g.line, hc, he, hb⟩
theorem PS.put {c e b : Nat} {w0 : World} {k n m k' n' m' : Int} {t t' : ByteArray} {l : List UInt8} {w : World} (h : PS c e b w0 k n m t l w) (i : Nat) (v : Value) (hv : (cmdV k n m t).setIfInBounds i v = cmdV k' n' m' t') : PS c e b w0 k' n' m' t' l (w.setCell ⟨c, i, none⟩ v) :=
  have hc := h.hc
  have he := h.he
  have hb := h.hb
  ⟨h.os, h.tape, h.output, by simpa [World.setCell] using h.size, fun i hi => (Below.heap_setCell _ _ _ _ (show i ≠ c by omega)).trans (h.block i hi), by
    have := h.cmd
    rw [← hv]
    simp [World.setCell, Array.getElem?_modify, this], (Below.heap_setCell _ _ _ _ (show e ≠ c by omega)).trans h.err, (Below.heap_setCell _ _ _ _ (show b ≠ c by omega)).trans h.line, hc, he, hb⟩
theorem PS.cells {c e b : Nat} {w0 : World} {k n m : Int} {t : ByteArray} {l : List UInt8} {w : World} (h : PS c e b w0 k n m t l w) :
    w.cell? ⟨c, 0, none⟩ = some (.int .i64 0) ∧ w.cell? ⟨c, 1, none⟩ = some (.int .i64 0) ∧ w.cell? ⟨c, 2, none⟩ = some (.int .i64 k) ∧ w.cell? ⟨c, 3, none⟩ = some (.int .i64 n) ∧ w.cell? ⟨c, 4, none⟩ = some (.int .i64 m) ∧ w.cell? ⟨c, 5, none⟩ = some (.string t) ∧
    (∀ i, w.frozen? ⟨c, i, none⟩ = false) ∧ w.cell? ⟨e, 0, none⟩ = some (.int .i64 0) ∧ w.frozen? ⟨e, 0, none⟩ = false ∧ w.cell? ⟨b, 0, none⟩ = some (.string (Str l)) ∧ w.frozen? ⟨b, 0, none⟩ = false := by
  refine ⟨?_, ?_, ?_, ?_, ?_, ?_, fun i => blk_frozen h.cmd _, ?_, blk_frozen h.err _, h.line.cell, h.line.frozen⟩
  all_goals first | (rw [cell_of_row _ c _ _ _ _ h.cmd]; rfl) | (rw [cell_of_row _ e _ _ _ _ h.err]; rfl)
theorem PS.below {c e b : Nat} {w0 : World} {k n m : Int} {t : ByteArray} {l : List UInt8} {w : World} (h : PS c e b w0 k n m t l w) : Below w0.heap.size w0 w := ⟨h.os, h.tape, h.output, h.size, h.block⟩
/-- What a step of 'Parse' that ends by a value or a panic leaves. -/
def PEnds (c e b : Nat) (w0 : World) (k n m : Int) (t : ByteArray) {α : Type} (res : Except Int (α × List UInt8)) (v : α → Value) (en : Ending) (w' : World) : Prop :=
  (∃ x r, Aside0 (res = .ok (x, r)) ∧ en = .returned (v x) ∧ Aside0 (PS c e b w0 k n m t r w')) ∨ (∃ x r, Aside0 (res = .error x) ∧ en = .panicked (Wr x) ∧ Aside0 (PS c e b w0 k n m t r w'))
theorem PS.ends {c e b : Nat} {w0 : World} {k n m : Int} {t : ByteArray} {l : List UInt8} {w : World} (h : PS c e b w0 k n m t l w) {α : Type} {res : Except Int (α × List UInt8)} {v : α → Value} {en : Ending} {w' : World} (g : Ends b w res v en w') : PEnds c e b w0 k n m t res v en w' := by
  rcases g with ⟨x, r, h1, h2, h3⟩ | ⟨x, r, h1, h2, h3⟩
  · exact .inl ⟨x, r, ⟨h1⟩, h2, ⟨h.held h3⟩⟩
  · exact .inr ⟨x, r, ⟨h1⟩, h2, ⟨h.held h3⟩⟩
theorem fail_l (L : Value) (c : Bool) (x : Int) (w : World) : Calls Tryd.prog 25 #[L, .bool c, .int .i64 x] w fun e w' => ((Aside0 (c = true) ∧ e = .returned (.tuple #[])) ∨ (Aside0 (c = false) ∧ e = .panicked (Wr x))) ∧ w' = w := by
  cases c
  · exact (fail_yes L x w).mono fun e w' ⟨h1, h2⟩ => ⟨.inr ⟨⟨rfl⟩, h1⟩, h2⟩
  · exact (fail_no L x w).mono fun e w' ⟨h1, h2⟩ => ⟨.inl ⟨⟨rfl⟩, h1⟩, h2⟩
theorem numbered_l (k : Int) (w : World) : Calls Tryd.prog 22 #[.int .i64 k] w fun e w' => e = .returned (.bool (decide (5 ≤ k))) ∧ w' = w := by
  go_enter Tryd.func22, Tryd.ntmps22
  go_wp2
  go_ret
  exact ⟨rfl, rfl⟩
theorem worded_l (k : Int) (w : World) : Calls Tryd.prog 23 #[.int .i64 k] w fun e w' => e = .returned (.bool (decide (k = 4 ∨ k = 5))) ∧ w' = w := by
  by_cases h4 : k = 4
  · subst h4
    go_enter Tryd.func23, Tryd.ntmps23
    go_wp2
    go_ret
    exact ⟨rfl, rfl⟩
  · have e : decide (k = 4 ∨ k = 5) = decide (k = 5) := by simp [h4]
    rw [e]
    go_enter Tryd.func23, Tryd.ntmps23
    go_wp2
    go_ret
    refine ⟨?_, rfl⟩
    by_cases h5 : k = 5
    · subst h5; rfl
    · have q4 : (k == 4) = false := beq_eq_false_iff_ne.mpr h4
      have q5 : (k == 5) = false := beq_eq_false_iff_ne.mpr h5
      simp [q4, q5, h4, h5]
theorem str_empty {r : List UInt8} (h : (Str r).toList.isEmpty = true) : r = [] := by
  rw [Go.ByteArray.toList_eq, Str_data] at h
  simpa using h
theorem str_some {r : List UInt8} (h : (Str r).toList.isEmpty = false) : ¬ r = [] := by
  rw [Go.ByteArray.toList_eq, Str_data] at h
  simpa using h
theorem ps_start (w : World) (l : List UInt8) : PS w.heap.size (w.heap.size + 1) (w.heap.size + 1 + 1) w 0 0 0 ⟨#[]⟩ l (((w.alloc (.cells #[.int .i64 0, .int .i64 0, .int .i64 0, .int .i64 0, .int .i64 0, .string ⟨#[]⟩] 24)).alloc (.cells #[.int .i64 0] 25)).alloc (.cells #[.string (Str l)] 40)) := by
  refine ⟨rfl, rfl, rfl, ?_, fun i hi => ?_, ?_, ?_, ?_, Nat.le_refl _, Nat.lt_succ_self _, Nat.lt_succ_self _⟩
  · show w.heap.size ≤ (((w.heap.push _).push _).push _).size
    rw [Array.size_push, Array.size_push, Array.size_push]; omega
  · show (((w.heap.push _).push _).push _)[i]? = _
    rw [Array.getElem?_push, if_neg (by rw [Array.size_push, Array.size_push]; omega), Array.getElem?_push, if_neg (by rw [Array.size_push]; omega), Array.getElem?_push, if_neg (by omega)]
  · show (((w.heap.push _).push _).push _)[w.heap.size]? = _
    rw [Array.getElem?_push, if_neg (by rw [Array.size_push, Array.size_push]; omega), Array.getElem?_push, if_neg (by rw [Array.size_push]; omega), Array.getElem?_push, if_pos rfl]; rfl
  · show (((w.heap.push _).push _).push _)[w.heap.size + 1]? = _
    rw [Array.getElem?_push, if_neg (by rw [Array.size_push, Array.size_push]; omega), Array.getElem?_push, if_pos (by rw [Array.size_push])]
  · show (((w.heap.push _).push _).push _)[w.heap.size + 1 + 1]? = _
    rw [Array.getElem?_push, if_pos (by rw [Array.size_push, Array.size_push])]
theorem PS.putE {c e b : Nat} {w0 : World} {k n m : Int} {t : ByteArray} {l : List UInt8} {w : World} (h : PS c e b w0 k n m t l w) : PS c e b w0 k n m t l (w.setCell ⟨e, 0, none⟩ (.int .i64 0)) :=
  have hc := h.hc
  have he := h.he
  have hb := h.hb
  ⟨h.os, h.tape, h.output, by simpa [World.setCell] using h.size, fun i hi => (Below.heap_setCell _ _ _ _ (show i ≠ e by omega)).trans (h.block i hi), (Below.heap_setCell _ _ _ _ (show c ≠ e by omega)).trans h.cmd, by
    have := h.err
    simp [World.setCell, Array.getElem?_modify, this], (Below.heap_setCell _ _ _ _ (show b ≠ e by omega)).trans h.line, hc, he, hb⟩
theorem load_cmd (c : Nat) (cs : Array Value) (hc : cs.size = 6) (W : World) (hW : W.heap[c]? = some (.cells cs 24 (0, 0))) : (loadVar 24 ⟨c, 0, none⟩).run Tryd.prog W = .ok (.agg cs) W := by
  have := run_loadVar_at (P := Tryd.prog) W c 0 24 24 cs cs.toList (0, 0) _ hW (fun j v hv => by simpa using hv) Tryd.underlying24 rfl (by rw [Array.length_toList, hc]; kernel_rfl)
  simpa using this
theorem load_err (e : Nat) (v : Value) (W : World) (hW : W.heap[e]? = some (.cells #[v] 25 (0, 0))) : (loadVar 25 ⟨e, 0, none⟩).run Tryd.prog W = .ok v W := by
  have hc : W.cell? ⟨e, 0, none⟩ = some v := by rw [cell_of_row _ e 0 _ _ _ hW]; rfl
  simp [go_sem, hc]
theorem read_res (c e : Nat) (cs : Array Value) (hc : cs.size = 6) (v : Value) (w0 W : World) (h : Res c e cs v w0 W) (tmps : Array Value) (h2 : tmps.getD 2 undef = .pointer (some ⟨c, 0, none⟩)) (h3 : tmps.getD 3 undef = .pointer (some ⟨e, 0, none⟩)) : (results Tryd.f10 tmps).run Tryd.prog W = .ok (.tuple #[.agg cs, v]) W := by
  have a := load_cmd c cs hc W h.cmd
  have b := load_err e v W h.err
  have h : Tryd.f10.results = #[.cell 2 24, .cell 3 25] := rfl
  have h2' : tmps[2]?.getD undef = .pointer (some ⟨c, 0, none⟩) := by simpa using h2
  have h3' : tmps[3]?.getD undef = .pointer (some ⟨e, 0, none⟩) := by simpa using h3
  simp [results, h, h2', h3', asAddr, a, b]
theorem leaf_panic (c e b : Nat) (w0 : World) (k n m : Int) (t : ByteArray) (r : List UInt8) (x : Int) (W : World) (H : PS c e b w0 k n m t r W) (tmps : Array Value) (h2 : tmps.getD 2 undef = .pointer (some ⟨c, 0, none⟩)) (h3 : tmps.getD 3 undef = .pointer (some ⟨e, 0, none⟩)) (R : Ending → World → Prop)
    (hR : ∀ W', Below w0.heap.size w0 W' → R (.returned (.tuple #[.agg zeroCmd, .int .i64 x])) W') :
    bodyPostD Tryd.prog Tryd.f10 R (Exit.panic (Wr x)) { tmps := tmps, defers := [{ target := Target.fn (Fn.func 19) #[.pointer (some ⟨c, 0, none⟩), .pointer (some ⟨e, 0, none⟩)], args := #[] }] } W := by
  show Leaves Tryd.prog Tryd.f10 tmps R _ (.panicking (Wr x)) W
  have hlt := H.he
  refine leaves_cons (f := 19) (args := #[.pointer (some ⟨c, 0, none⟩), .pointer (some ⟨e, 0, none⟩)]) (by simp [Wr]) (by simp [go_sem]) ?_
  refine (catch_panic c e x [] W _ (by rfl) H.cmd _ H.err (by omega)).mono ?_
  rintro en u' W' ⟨rfl, rfl, hres⟩
  refine ⟨_, read_res c e zeroCmd rfl _ _ _ hres tmps h2 h3, hR _ ?_⟩
  have hs := H.size
  have hcc := H.hc
  exact ⟨hres.os.trans H.os, hres.tape.trans H.tape, hres.output.trans H.output, Nat.le_trans hs hres.size, fun i hi => (hres.block i (by omega) (by omega) (by omega)).trans (H.block i hi)⟩
theorem leaf_ret (c e b : Nat) (w0 : World) (k n m : Int) (t : ByteArray) (r : List UInt8) (W : World) (H : PS c e b w0 k n m t r W) (tmps : Array Value) (h2 : tmps.getD 2 undef = .pointer (some ⟨c, 0, none⟩)) (h3 : tmps.getD 3 undef = .pointer (some ⟨e, 0, none⟩)) (R : Ending → World → Prop)
    (hR : R (.returned (.tuple #[.agg (cmdV k n m t), .int .i64 0])) W) :
    bodyPostD Tryd.prog Tryd.f10 R Exit.ret { tmps := tmps, defers := [{ target := Target.fn (Fn.func 19) #[.pointer (some ⟨c, 0, none⟩), .pointer (some ⟨e, 0, none⟩)], args := #[] }] } W := by
  show Leaves Tryd.prog Tryd.f10 tmps R _ .returning W
  refine leaves_cons (f := 19) (args := #[.pointer (some ⟨c, 0, none⟩), .pointer (some ⟨e, 0, none⟩)]) (by simp) (by simp [go_sem]) ?_
  refine (catch_idle c e W).mono ?_
  rintro en u' W' ⟨rfl, rfl, rfl⟩
  have hres : Res c e (cmdV k n m t) (.int .i64 0) W' W' := ⟨rfl, rfl, rfl, Nat.le_refl _, fun _ _ _ _ => rfl, H.cmd, H.err⟩
  exact ⟨_, read_res c e _ rfl _ _ _ hres tmps h2 h3, hR⟩
theorem wordS_len {l r : List UInt8} {k : Int} (h : wordS l = .ok (k, r)) : r.length ≤ l.length := by
  unfold wordS at h
  split at h
  · split at h
    · cases h
      exact Nat.le_succ_of_le (List.dropWhile_sublist _).length_le
    · cases h
  · cases h
theorem numS_len {most : Int} {l r : List UInt8} {k : Int} (h : numS most l = .ok (k, r)) : r.length ≤ l.length := by
  unfold numS at h
  split at h
  · split at h
    · cases h
    split at h
    · cases h
    split at h
    · cases h
    cases h
    exact Nat.le_succ_of_le (List.dropWhile_sublist _).length_le
  · cases h
set_option maxRecDepth 100000 in
set_option maxHeartbeats 2000000 in
theorem parse_w (may : List UInt8 → Bool) (l : List UInt8) (hlen : l.length < 1000000) (w : World) (hM : ∀ s w1, s.length ≤ 64 → Below w.heap.size w w1 → Calls Tryd.prog 12 #[.string (Str s)] w1 fun e w' => e = .returned (.bool (may s)) ∧ Below w1.heap.size w1 w') :
    Calls Tryd.prog 10 #[.string (Str l)] w fun e w' => (∃ k n m t, parseS may l = .ok (k, n, m, t) ∧ e = .returned (.tuple #[.agg (cmdV k n m (Str t)), .int .i64 0]) ∧ Below w.heap.size w w') ∨ (∃ x, parseS may l = .error x ∧ e = .returned (.tuple #[.agg zeroCmd, .int .i64 x]) ∧ Below w.heap.size w w') := by
  have hmf : ∀ (fn : Fn) (first cap : Array Value) (w : World), (Instr.makeFunc fn first cap).run Tryd.prog w = .ok (.func fn first cap) w := fun _ _ _ _ => rfl
  go_enter_defers Tryd.func10, Tryd.ntmps10
  go_wp2_with (fail)
  obtain ⟨W0, hW0⟩ : ∃ W0, (((w.alloc (.cells #[.int .i64 0, .int .i64 0, .int .i64 0, .int .i64 0, .int .i64 0, .string ⟨#[]⟩] 24)).alloc (.cells #[.int .i64 0] 25)).alloc (.cells #[.string (Str l)] 40)) = W0 := ⟨_, rfl⟩
  have H0 : Aside0 (PS w.heap.size (w.heap.size + 1) (w.heap.size + 1 + 1) w 0 0 0 ⟨#[]⟩ l W0) := ⟨hW0 ▸ ps_start w l⟩
  obtain ⟨c, hc⟩ : ∃ c, w.heap.size = c := ⟨_, rfl⟩
  rw [hW0, hc]
  rw [hc] at H0
  obtain ⟨e, he⟩ : ∃ e, c + 1 = e := ⟨_, rfl⟩
  rw [he] at H0 ⊢
  obtain ⟨b, hb⟩ : ∃ b, e + 1 = b := ⟨_, rfl⟩
  rw [hb] at H0 ⊢
  clear hb he hW0
  have cW : Calls Tryd.prog 21 #[.pointer (some ⟨b, 0, none⟩)] W0 (PEnds c e b w 0 0 0 ⟨#[]⟩ (wordS l) (fun k => .int .i64 k)) := (word_w b l W0 H0.out.line).mono fun _ _ h => H0.out.ends h
  have cN1 : ∀ k r W, Aside0 (wordS l = .ok (k, r)) → Aside0 (PS c e b w k 0 0 ⟨#[]⟩ r W) → Calls Tryd.prog 20 #[.pointer (some ⟨b, 0, none⟩), .int .i64 1048576] W (PEnds c e b w k 0 0 ⟨#[]⟩ (numS 1048576 r) (fun k => .int .i64 k)) := fun k r W hk H => (num_w b _ r (Nat.lt_of_le_of_lt (wordS_len hk.out) hlen) W H.out.line).mono fun _ _ h => H.out.ends h
  have cN2 : ∀ k r n r2 W, Aside0 (wordS l = .ok (k, r)) → Aside0 (numS 1048576 r = .ok (n, r2)) → Aside0 (PS c e b w k n 0 ⟨#[]⟩ r2 W) → Calls Tryd.prog 20 #[.pointer (some ⟨b, 0, none⟩), .int .i64 1073741824] W (PEnds c e b w k n 0 ⟨#[]⟩ (numS 1073741824 r2) (fun k => .int .i64 k)) := fun k r n r2 W hk hn H => (num_w b _ r2 (Nat.lt_of_le_of_lt (Nat.le_trans (numS_len hn.out) (wordS_len hk.out)) hlen) W H.out.line).mono fun _ _ h => H.out.ends h
  have cT : ∀ k n m r W, Aside0 (PS c e b w k n m ⟨#[]⟩ r W) → Calls Tryd.prog 24 #[.pointer (some ⟨b, 0, none⟩)] W (PEnds c e b w k n m ⟨#[]⟩ (textS may r) (fun t => .string (Str t))) := fun k n m r W H => (text_w may b r W H.out.line (fun s w1 hs h1 => hM s w1 hs (H.out.held h1).below)).mono fun _ _ h => H.out.ends h
  have cF : ∀ B k n m t r W, Aside0 (PS c e b w k n m t r W) → Calls Tryd.prog 25 #[.pointer (some ⟨b, 0, none⟩), .bool B, .int .i64 2] W (fun en w' => ((Aside0 (B = true) ∧ en = .returned (.tuple #[])) ∨ (Aside0 (B = false) ∧ en = .panicked (Wr 2))) ∧ Aside0 (PS c e b w k n m t r w')) := fun B k n m t r W H => (fail_l _ B 2 W).mono fun _ _ h => ⟨h.1, by rw [h.2]; exact H⟩
  clear hM hlen hc
  refine cW.mono ?_
  clear cW
  rintro en w1 (⟨k, r, hk, rfl, H1⟩ | ⟨x, r, hx, rfl, H1⟩)
  · obtain ⟨ca, cb, cc, cd, ce, cf, cg, ch, ci, cj, ck⟩ := H1.out.cells
    clear H0
    go_wp2_with (go_at_call 20; refine (cN1 _ _ _ hk ⟨H1.out.put 2 _ rfl⟩).mono ?_)
    clear ca cb cc cd ce cf cg ch ci cj ck
    rintro en w2 (⟨n, r2, hn, rfl, H2⟩ | ⟨x, r2, hx, rfl, H2⟩)
    · obtain ⟨ca, cb, cc, cd, ce, cf, cg, ch, ci, cj, ck⟩ := H2.out.cells
      clear H1 cN1
      go_wp2_with (first | (go_at_call 22; refine (numbered_l _ _).mono ?_; rintro e w' ⟨rfl, hw_⟩; obtain rfl := hw_.symm))
      · refine (cN2 _ _ _ _ _ hk hn ⟨H2.out.put 3 _ rfl⟩).mono ?_
        clear ca cb cc cd ce cf cg ch ci cj ck
        rintro en w3 (⟨m, r3, hm, rfl, H3⟩ | ⟨x, r3, hx, rfl, H3⟩)
        · obtain ⟨ca, cb, cc, cd, ce, cf, cg, ch, ci, cj, ck⟩ := H3.out.cells
          clear H2 cN2
          go_wp2_with (first | (go_at_call 23; refine (worded_l _ _).mono ?_; rintro e w' ⟨rfl, hw_⟩; obtain rfl := hw_.symm))
          · refine (cT _ _ _ _ _ ⟨(H3.out.put 4 _ rfl)⟩).mono ?_
            clear ca cb cc cd ce cf cg ch ci cj ck
            rintro en w4 (⟨tx, r4, ht, rfl, H4⟩ | ⟨x, r4, hx, rfl, H4⟩)
            · obtain ⟨ca, cb, cc, cd, ce, cf, cg, ch, ci, cj, ck⟩ := H4.out.cells
              go_wp2_with (fail)
              refine (cF _ _ _ _ _ _ _ ⟨(H4.out.put 5 _ rfl)⟩).mono ?_
              clear cF cT
              clear ca cb cc cd ce cf cg ch ci cj ck
              rintro en w9 ⟨(⟨hq, rfl⟩ | ⟨hq, rfl⟩), H9⟩
              · obtain ⟨ca, cb, cc, cd, ce, cf, cg, ch, ci, cj, ck⟩ := H9.out.cells
                have hne : ¬ c = e := by have := H9.out.he; omega
                have hne' : ¬ e = c := by have := H9.out.he; omega
                go_wp2
                exact leaf_ret c e b w k n m (Str tx) _ _ (((((((H9.out.put 0 _ rfl).put 1 _ rfl).put 2 _ rfl).put 3 _ rfl).put 4 _ rfl).put 5 _ rfl).putE) _ rfl rfl _ (.inl ⟨k, n, m, tx, by unfold parseS; rw [hk.out]; simp only []; rw [hn.out]; simp only []; rw [if_pos (by omega), hm.out]; simp only []; rw [if_pos (by first | assumption | omega), ht.out]; simp only []; rw [if_pos (str_empty hq.out)], rfl, ((((((((H9.out.put 0 _ rfl).put 1 _ rfl).put 2 _ rfl).put 3 _ rfl).put 4 _ rfl).put 5 _ rfl).putE)).below⟩)
              · exact leaf_panic c e b w _ _ _ _ _ 2 _ H9.out _ rfl rfl _ fun W' hB => .inr ⟨2, by unfold parseS; rw [hk.out]; simp only []; rw [hn.out]; simp only []; rw [if_pos (by omega), hm.out]; simp only []; rw [if_pos (by first | assumption | omega), ht.out]; simp only []; rw [if_neg (str_some hq.out)], rfl, hB⟩
            · exact leaf_panic c e b w _ _ _ _ _ x w4 H4.out _ rfl rfl _ fun W' hB => .inr ⟨x, by unfold parseS; rw [hk.out]; simp only []; rw [hn.out]; simp only []; rw [if_pos (by omega), hm.out]; simp only []; rw [if_pos (by first | assumption | omega), hx.out], rfl, hB⟩
          · refine (cF _ _ _ _ _ _ _ ⟨(H3.out.put 4 _ rfl)⟩).mono ?_
            clear cF cT
            clear ca cb cc cd ce cf cg ch ci cj ck
            rintro en w9 ⟨(⟨hq, rfl⟩ | ⟨hq, rfl⟩), H9⟩
            · obtain ⟨ca, cb, cc, cd, ce, cf, cg, ch, ci, cj, ck⟩ := H9.out.cells
              have hne : ¬ c = e := by have := H9.out.he; omega
              have hne' : ¬ e = c := by have := H9.out.he; omega
              go_wp2
              exact leaf_ret c e b w k n m (⟨#[]⟩) _ _ (((((((H9.out.put 0 _ rfl).put 1 _ rfl).put 2 _ rfl).put 3 _ rfl).put 4 _ rfl).put 5 _ rfl).putE) _ rfl rfl _ (.inl ⟨k, n, m, [], by unfold parseS; rw [hk.out]; simp only []; rw [hn.out]; simp only []; rw [if_pos (by omega), hm.out]; simp only []; rw [if_neg (by first | assumption | omega)]; simp only []; rw [if_pos (str_empty hq.out)], rfl, ((((((((H9.out.put 0 _ rfl).put 1 _ rfl).put 2 _ rfl).put 3 _ rfl).put 4 _ rfl).put 5 _ rfl).putE)).below⟩)
            · exact leaf_panic c e b w _ _ _ _ _ 2 _ H9.out _ rfl rfl _ fun W' hB => .inr ⟨2, by unfold parseS; rw [hk.out]; simp only []; rw [hn.out]; simp only []; rw [if_pos (by omega), hm.out]; simp only []; rw [if_neg (by first | assumption | omega)]; simp only []; rw [if_neg (str_some hq.out)], rfl, hB⟩
        · exact leaf_panic c e b w _ _ _ _ _ x w3 H3.out _ rfl rfl _ fun W' hB => .inr ⟨x, by unfold parseS; rw [hk.out]; simp only []; rw [hn.out]; simp only []; rw [if_pos (by omega), hx.out], rfl, hB⟩
      · clear cN2
        go_wp2_with (first | (go_at_call 23; refine (worded_l _ _).mono ?_; rintro e w' ⟨rfl, hw_⟩; obtain rfl := hw_.symm))
        · refine (cT _ _ _ _ _ ⟨(H2.out.put 3 _ rfl)⟩).mono ?_
          clear ca cb cc cd ce cf cg ch ci cj ck
          rintro en w4 (⟨tx, r4, ht, rfl, H4⟩ | ⟨x, r4, hx, rfl, H4⟩)
          · obtain ⟨ca, cb, cc, cd, ce, cf, cg, ch, ci, cj, ck⟩ := H4.out.cells
            go_wp2_with (fail)
            refine (cF _ _ _ _ _ _ _ ⟨(H4.out.put 5 _ rfl)⟩).mono ?_
            clear cF cT
            clear ca cb cc cd ce cf cg ch ci cj ck
            rintro en w9 ⟨(⟨hq, rfl⟩ | ⟨hq, rfl⟩), H9⟩
            · obtain ⟨ca, cb, cc, cd, ce, cf, cg, ch, ci, cj, ck⟩ := H9.out.cells
              have hne : ¬ c = e := by have := H9.out.he; omega
              have hne' : ¬ e = c := by have := H9.out.he; omega
              go_wp2
              exact leaf_ret c e b w k n 0 (Str tx) _ _ (((((((H9.out.put 0 _ rfl).put 1 _ rfl).put 2 _ rfl).put 3 _ rfl).put 4 _ rfl).put 5 _ rfl).putE) _ rfl rfl _ (.inl ⟨k, n, 0, tx, by unfold parseS; rw [hk.out]; simp only []; rw [hn.out]; simp only []; rw [if_neg (by omega)]; simp only []; rw [if_pos (by first | assumption | omega), ht.out]; simp only []; rw [if_pos (str_empty hq.out)], rfl, ((((((((H9.out.put 0 _ rfl).put 1 _ rfl).put 2 _ rfl).put 3 _ rfl).put 4 _ rfl).put 5 _ rfl).putE)).below⟩)
            · exact leaf_panic c e b w _ _ _ _ _ 2 _ H9.out _ rfl rfl _ fun W' hB => .inr ⟨2, by unfold parseS; rw [hk.out]; simp only []; rw [hn.out]; simp only []; rw [if_neg (by omega)]; simp only []; rw [if_pos (by first | assumption | omega), ht.out]; simp only []; rw [if_neg (str_some hq.out)], rfl, hB⟩
          · exact leaf_panic c e b w _ _ _ _ _ x w4 H4.out _ rfl rfl _ fun W' hB => .inr ⟨x, by unfold parseS; rw [hk.out]; simp only []; rw [hn.out]; simp only []; rw [if_neg (by omega)]; simp only []; rw [if_pos (by first | assumption | omega), hx.out], rfl, hB⟩
        · refine (cF _ _ _ _ _ _ _ ⟨(H2.out.put 3 _ rfl)⟩).mono ?_
          clear cF cT
          clear ca cb cc cd ce cf cg ch ci cj ck
          rintro en w9 ⟨(⟨hq, rfl⟩ | ⟨hq, rfl⟩), H9⟩
          · obtain ⟨ca, cb, cc, cd, ce, cf, cg, ch, ci, cj, ck⟩ := H9.out.cells
            have hne : ¬ c = e := by have := H9.out.he; omega
            have hne' : ¬ e = c := by have := H9.out.he; omega
            go_wp2
            exact leaf_ret c e b w k n 0 (⟨#[]⟩) _ _ (((((((H9.out.put 0 _ rfl).put 1 _ rfl).put 2 _ rfl).put 3 _ rfl).put 4 _ rfl).put 5 _ rfl).putE) _ rfl rfl _ (.inl ⟨k, n, 0, [], by unfold parseS; rw [hk.out]; simp only []; rw [hn.out]; simp only []; rw [if_neg (by omega)]; simp only []; rw [if_neg (by first | assumption | omega)]; simp only []; rw [if_pos (str_empty hq.out)], rfl, ((((((((H9.out.put 0 _ rfl).put 1 _ rfl).put 2 _ rfl).put 3 _ rfl).put 4 _ rfl).put 5 _ rfl).putE)).below⟩)
          · exact leaf_panic c e b w _ _ _ _ _ 2 _ H9.out _ rfl rfl _ fun W' hB => .inr ⟨2, by unfold parseS; rw [hk.out]; simp only []; rw [hn.out]; simp only []; rw [if_neg (by omega)]; simp only []; rw [if_neg (by first | assumption | omega)]; simp only []; rw [if_neg (str_some hq.out)], rfl, hB⟩
    · exact leaf_panic c e b w _ _ _ _ _ x w2 H2.out _ rfl rfl _ fun W' hB => .inr ⟨x, by unfold parseS; rw [hk.out]; simp only []; rw [hx.out], rfl, hB⟩
  · exact leaf_panic c e b w _ _ _ _ _ x w1 H1.out _ rfl rfl _ fun W' hB => .inr ⟨x, by unfold parseS; rw [hx.out], rfl, hB⟩
end Go.Proofs.YtifdlbdecjlnaaaDoor.PAll
