/- The reference's disk: Write. Printed by wip/tools/genref19.py. -/
import Derived.Test.YtfmgealooebciaaRefWrite
namespace Go.Proofs.Ytfmgealooebciaa.PAll
open Go.RowKit Go.Proofs.YtfmgealooebciaaW.PrintWords Go.Proofs.YtfmgealooebciaaW.PrintLast Go.Proofs.YtfmgealooebciaaW.PrintMore
set_option linter.unusedVariables false
set_option linter.unusedSimpArgs false
set_option maxHeartbeats 1000000 in
set_option maxRecDepth 100000 in
theorem refwrite_no (base D : Nat) (AS : Option Addr) (cS : Nat) (vW : Value) (Ab : Option Addr) (S : List (List Int)) (W : List (Int × List Int)) (i : Int) (n cb : Nat) (w : World) (h : RefAt base D (.slice AS S.length cS) vW S W w)
    (hi : (decide (i < 0) = true) ∨ (decide (i < 0) = false ∧ decide (i ≥ (S.length : Int)) = true) ∨ (decide (i < 0) = false ∧ decide (i ≥ (S.length : Int)) = false ∧ ((n : Int) != 16) = true)) :
    Calls Try.prog 14 #[.pointer (some ⟨D, 0, none⟩), .int .i64 i, .slice Ab n cb] w fun x w' => x = .returned (.int .i64 1) ∧ w' = w := by
  have q0 : w.cell? ⟨D, 0, none⟩ = some (.slice AS S.length cS) := (blk_cell h.blk 0).trans rfl
  clear h
  rcases hi with hi | ⟨hi, hj⟩ | ⟨hi, hj, hk⟩
  all_goals
    go_enter Try.func14, Try.ntmps14
    go_wp2
    go_ret
    exact ⟨rfl, rfl⟩
set_option maxHeartbeats 2000000 in
set_option maxRecDepth 100000 in
theorem refwrite_yes (base D : Nat) (AS : Option Addr) (cS : Nat) (vW : Value) (S : List (List Int)) (W : List (Int × List Int)) (i : Int) (b : List Int) (Ab : Option Addr) (cb : Nat) (w : World) (h : RefAt base D (.slice AS S.length cS) vW S W w) (hb : Kd.C (Kd.int .u8) w Ab 16 b)
    (hi : decide (i < 0) = false) (hj : decide (i ≥ (S.length : Int)) = false) (hn : W.length < 1099511627776) :
    Calls Try.prog 14 #[.pointer (some ⟨D, 0, none⟩), .int .i64 i, .slice Ab 16 cb] w fun x w' => x = .returned (.int .i64 0) ∧ ∃ vW', RefAt base D (.slice AS S.length cS) vW' S (W ++ [(i, b)]) w' ∧ RTouch D (.slice AS S.length cS) vW w w' ∧ (∀ k, vW'.ownBlock = some k → vW.ownBlock = some k ∨ w.heap.size ≤ k) := by
  have q0 : w.cell? ⟨D, 0, none⟩ = some (.slice AS S.length cS) := (blk_cell h.blk 0).trans rfl
  have H := Aside0.mk h
  have HBb := Aside0.mk hb
  have HN := Aside0.mk hn
  clear h hb hn
  go_enter Try.func14, Try.ntmps14
  go_wp2_with fail
  refine wp_region_held (S := fun U => U.cell? ⟨D, 1, none⟩ = some vW) (some 13) [7, 8, 9, 10] [0, 1, 2, 3, 4, 5, 6, 7, 8, 9, 10, 11, 12] (by kernel_rfl) rfl (by kernel_rfl) (by kernel_rfl) ((blk_cell (blk_drew H.out.blk) 1).trans rfl) (fun hHeld => ?_)
  refine held_read (i := 0) (N := (some 23)) (v := ?_) (a' := ?_) rfl rfl rfl (fun _ _ _ h => h) (Or.inl ⟨by rfl, ?_⟩) ?_ ?_
  rotate_left
  · intro w' hS
    go_simp
    with_reducible rfl
  rotate_left
  · simp only [Act.put, List.setIfInBounds_toArray, List.set_cons_zero, List.set_cons_succ, Go.Proofs.YtfmgealooebciaaW.PrintLast.i64_w, Go.Proofs.YtfmgealooebciaaW.PrintLast.i32_w]
    rfl
  refine held_read (i := 1) (N := (some 24)) (v := ?_) (a' := ?_) rfl rfl rfl (fun _ _ _ h => h) (Or.inl ⟨by rfl, ?_⟩) ?_ ?_
  rotate_left
  · intro w' hS
    go_simp
    with_reducible rfl
  rotate_left
  · simp only [Act.put, List.setIfInBounds_toArray, List.set_cons_zero, List.set_cons_succ, Go.Proofs.YtfmgealooebciaaW.PrintLast.i64_w, Go.Proofs.YtfmgealooebciaaW.PrintLast.i32_w]
    rfl
  refine held_read (i := 2) (N := (some 25)) (v := ?_) (a' := ?_) rfl rfl rfl (fun _ _ _ h => h) (Or.inl ⟨by rfl, ?_⟩) ?_ ?_
  rotate_left
  · intro w' hS
    go_simp
    with_reducible rfl
  rotate_left
  · simp only [Act.put, List.setIfInBounds_toArray, List.set_cons_zero, List.set_cons_succ, Go.Proofs.YtfmgealooebciaaW.PrintLast.i64_w, Go.Proofs.YtfmgealooebciaaW.PrintLast.i32_w]
    rfl
  refine held_read (i := 3) (N := (some 26)) (v := ?_) (a' := ?_) rfl rfl rfl (fun _ _ _ h => h) (Or.inl ⟨by rfl, ?_⟩) ?_ ?_
  rotate_left
  · intro w' hS
    go_simp
    with_reducible rfl
  rotate_left
  · simp only [Act.put, List.setIfInBounds_toArray, List.set_cons_zero, List.set_cons_succ, Go.Proofs.YtfmgealooebciaaW.PrintLast.i64_w, Go.Proofs.YtfmgealooebciaaW.PrintLast.i32_w]
    rfl
  refine held_read (i := 4) (N := (some 27)) (v := ?_) (a' := ?_) rfl rfl rfl (fun _ _ _ h => h) (Or.inl ⟨by rfl, ?_⟩) ?_ ?_
  rotate_left
  · intro w' hS
    go_simp
    with_reducible rfl
  rotate_left
  · simp only [Act.put, List.setIfInBounds_toArray, List.set_cons_zero, List.set_cons_succ, Go.Proofs.YtfmgealooebciaaW.PrintLast.i64_w, Go.Proofs.YtfmgealooebciaaW.PrintLast.i32_w]
    rfl
  refine held_read (i := 5) (N := (some 28)) (v := ?_) (a' := ?_) rfl rfl rfl (fun _ _ _ h => h) (Or.inl ⟨by rfl, ?_⟩) ?_ ?_
  rotate_left
  · intro w' hS
    go_simp
    with_reducible rfl
  rotate_left
  · simp only [Act.put, List.setIfInBounds_toArray, List.set_cons_zero, List.set_cons_succ, Go.Proofs.YtfmgealooebciaaW.PrintLast.i64_w, Go.Proofs.YtfmgealooebciaaW.PrintLast.i32_w]
    rfl
  refine held_read (i := 6) (N := (some 29)) (v := ?_) (a' := ?_) rfl rfl rfl (fun _ _ _ h => h) (Or.inl ⟨by rfl, ?_⟩) ?_ ?_
  rotate_left
  · intro w' hS
    go_simp
    with_reducible rfl
  rotate_left
  · simp only [Act.put, List.setIfInBounds_toArray, List.set_cons_zero, List.set_cons_succ, Go.Proofs.YtfmgealooebciaaW.PrintLast.i64_w, Go.Proofs.YtfmgealooebciaaW.PrintLast.i32_w]
    rfl
  refine held_run (i := 7) (N := (some 30)) rfl rfl rfl (fun K hK => ?_)
  refine Kd.R_append_rows_step (Kd.int .u8) (w0 := w) w.heap.size (by rfl) (.const (.slice none 0 0)) (.tmp 29) 30 5 (.int .u8 0) 1 rfl Try.underlying30 info5 rfl (by decide) (by omega) (.slice none 0 0) [] b Ab 16 cb (fun _ => True) (fun _ => False) rfl rfl (Kd.R_nil _ _ _ _ _) (Kd.C_below HBb.out (below_drew (Below.refl _ _))) (fun _ _ h => h) (fun _ h => h.elim) (fun _ _ => trivial) (below_drew (Below.refl _ _)) ?aS ?aL ?_
  case aS => exact Nat.le_refl _
  case aL => decide
  intro v1 w1 ho hb1 hg hat
  rw [List.nil_append] at ho
  have HO1 := Aside0.mk ho
  have HB1 := Aside0.mk hb1
  have H1 := Aside0.mk (H.out.below hb1)
  clear ho hb1 hg hat
  refine hK.out _ _ ((blk_cell H1.out.blk 1).trans rfl) ?_
  clear hK K
  refine held_norm (a' := ?_) ?_ ?_
  rotate_left
  · simp only [Act.put, List.setIfInBounds_toArray, List.set_cons_zero, List.set_cons_succ, Go.Proofs.YtfmgealooebciaaW.PrintLast.i64_w, Go.Proofs.YtfmgealooebciaaW.PrintLast.i32_w]
    rfl
  obtain ⟨Av1, cv1, e1⟩ := Kd.R_slice HO1.out
  subst e1
  refine held_run (i := 8) (N := (some 31)) rfl rfl rfl (fun K hK => ?_)
  go_simp
  refine hK.out _ _ ((blk_cell H1.out.blk 1).trans rfl) ?_
  clear hK K
  refine held_run (i := 9) (N := (some 32)) rfl rfl rfl (fun K hK => ?_)
  go_simp
  refine hK.out _ _ ((blk_cell (blk_alloc H1.out.blk _) 1).trans rfl) ?_
  clear hK K
  refine held_run (i := 10) (N := (some 33)) rfl rfl rfl (fun K hK => ?_)
  refine Kd.R_append_step (Kd.pair (Kd.int .i64) (Kd.slice 5 (Kd.int .u8))) (w0 := w) (W := w1) base (by rfl) (.tmp 27) (.tmp 32) 40 58 (.agg #[.int .i64 0, .slice none 0 0]) 32 rfl Try.underlying40 info58 rfl (by decide) (by omega) vW W (i, b) [.int .i64 i, .slice Av1 b.length cv1] (fun _ => True) (fun k => True ∧ some k ≠ vW.ownBlock) rfl rfl ?aP (fun _ hk => hk) (fun _ _ => trivial) H1.out.rw ?aB ?aC ?aL ?_
  case aP =>
    obtain ⟨inner, hown⟩ := Kd.R_own H1.out.rw
    have hne : ∀ k, vW.ownBlock = some k → ∃ cells, w1.heap[k]? = some (.cells cells 58 (0, 0)) := fun k hk => own_typed hown k hk
    refine ⟨[.int .i64 i], [.slice Av1 b.length cv1], rfl, rfl, _, rfl, ?_⟩
    have hle : base ≤ w.heap.size := Nat.le_trans H.out.le (Nat.le_of_lt (blk_lt H.out.blk))
    refine Kd.R_mono (Kd.R_bound (Kd.R_lower HO1.out hle)) (fun k hk => ⟨trivial, fun e => ?_⟩)
    obtain ⟨_, _, _, q, hq, cells, hc⟩ := hk
    obtain ⟨cells', hc'⟩ := hne k e.symm
    have e5 : q = 5 := by
      rcases List.mem_cons.1 hq with h1 | h1
      · exact h1
      · cases h1
    have := blk_type hc hc'
    rw [e5] at this
    exact absurd this (by decide)
  case aB => exact HB1.out.mono (Nat.le_trans H.out.le (Nat.le_of_lt (blk_lt H.out.blk)))
  case aC => exact Nat.le_trans H1.out.le (Nat.le_of_lt (blk_lt H1.out.blk))
  case aL => have := HN.out; omega
  intro v2 w2 ho hb2 hg hat
  obtain ⟨inner, hown⟩ := Kd.R_own H1.out.rw
  have hDW : some D ≠ vW.ownBlock := Kd.R_ne H1.out.rw H1.out.blk (by decide)
  have HO2 := Aside0.mk ho
  have HG2 := Aside0.mk hg
  have HAT := Aside0.mk hat
  have HD2 := Aside0.mk (blk_grown H1.out.blk hg hDW)
  clear ho hb2 hg hat
  refine hK.out _ _ ((blk_cell HD2.out 1).trans rfl) ?_
  clear hK K
  refine held_norm (a' := ?_) ?_ ?_
  rotate_left
  · simp only [Act.put, List.setIfInBounds_toArray, List.set_cons_zero, List.set_cons_succ, Go.Proofs.YtfmgealooebciaaW.PrintLast.i64_w, Go.Proofs.YtfmgealooebciaaW.PrintLast.i32_w]
    rfl
  refine held_read (i := 11) (N := (some 34)) (v := ?_) (a' := ?_) rfl rfl rfl (fun _ _ _ h => h) (Or.inl ⟨by rfl, ?_⟩) ?_ ?_
  rotate_left
  · intro w' hS
    go_simp
    with_reducible rfl
  rotate_left
  · simp only [Act.put, List.setIfInBounds_toArray, List.set_cons_zero, List.set_cons_succ, Go.Proofs.YtfmgealooebciaaW.PrintLast.i64_w, Go.Proofs.YtfmgealooebciaaW.PrintLast.i32_w]
    rfl
  refine held_read (i := 12) (N := (some 35)) (v := ?_) (a' := ?_) rfl rfl rfl (fun _ _ _ h => h) (Or.inl ⟨by rfl, ?_⟩) ?_ ?_
  rotate_left
  · intro w' hS
    go_simp
    with_reducible rfl
  rotate_left
  · simp only [Act.put, List.setIfInBounds_toArray, List.set_cons_zero, List.set_cons_succ, Go.Proofs.YtfmgealooebciaaW.PrintLast.i64_w, Go.Proofs.YtfmgealooebciaaW.PrintLast.i32_w]
    rfl
  refine held_last (z := 13) (N := none) rfl rfl (fun K hK => ?_)
  obtain ⟨A2, c2, e2⟩ := Kd.R_slice HO2.out
  rw [show (W ++ [(i, b)]).length = W.length + 1 by simp] at e2
  subst e2
  have q1 := blk_cell HD2.out 1
  have f1 := blk_frozen HD2.out 1
  go_simp
  refine hK.out _ _ ?_
  clear hK K
  go_wp2
  go_ret
  have hle := Nat.le_trans H.out.le (Nat.le_of_lt (blk_lt H.out.blk))
  have hgt : ∀ k, (Value.slice A2 (W.length + 1) c2).ownBlock = some k → vW.ownBlock = some k ∨ w.heap.size ≤ k := fun k hk => by
    rcases HAT.out with e | ⟨b', e, hb'⟩
    · exact .inl (by rw [← e]; exact hk)
    · rw [e] at hk
      injection hk with hk
      exact .inr (by have := HB1.out.size; omega)
  refine ⟨rfl, _, ⟨blk_put HD2.out 1 _ rfl, H.out.le, ?_, ?_⟩, ?_, hgt⟩
  · exact Kd.R_set (Kd.R_mono (Kd.R_grown (R_types' H1.out.rs (fun k hk => own_typed hown k hk) (by decide)) HG2.out (fun k hk => hk.2)) (fun _ _ => trivial)) HD2.out (by decide) 1 _
  · exact Kd.R_set HO2.out HD2.out (by decide) 1 _
  · exact (((RTouch.refl D _ _ w).below HB1.out).grown HG2.out (fun k hk => .inl (.inr (.inr hk)))).cellD 1 _
end Go.Proofs.Ytfmgealooebciaa.PAll
