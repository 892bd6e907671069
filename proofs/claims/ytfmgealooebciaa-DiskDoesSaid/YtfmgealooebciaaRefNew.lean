/- The reference's disk: New. Printed by wip/tools/genrefnew.py. -/
import Derived.Test.YtfmgealooebciaaRefWrite2
namespace Go.Proofs.Ytfmgealooebciaa.PAll
open Go.RowKit Go.Proofs.YtfmgealooebciaaW.PrintWords Go.Proofs.YtfmgealooebciaaW.PrintLast Go.Proofs.YtfmgealooebciaaW.PrintMore
set_option linter.unusedVariables false
set_option linter.unusedSimpArgs false
theorem info30' : (Try.prog.info? 30).map (fun i => (i.zero, i.size, i.bytes)) = some (some (.slice none 0 0), 1, 24) := by kernel_rfl
theorem ref_start (w : World) : RefAt w.heap.size w.heap.size (.slice none 0 0) (.slice none 0 0) (List.replicate 0 zeroS) [] (w.alloc (.cells #[.slice none 0 0, .slice none 0 0] 42)) :=
  ⟨blk_new w _, Nat.le_refl _, Kd.R_nil _ _ _ _ _, Kd.R_nil _ _ _ _ _⟩
set_option maxHeartbeats 2000000 in
set_option maxRecDepth 100000 in
theorem refnew_lo (n : Int) (hn : n < 1) (w : World) : Calls Try.prog 12 #[.int .i64 n] w fun x w' => ∃ AS cS, x = .returned (.pointer (some ⟨w.heap.size, 0, none⟩)) ∧ RefAt w.heap.size w.heap.size (.slice AS 1 cS) (.slice none 0 0) (List.replicate 1 zeroS) [] w' ∧ Below w.heap.size w w' := by
  have c1 : decide (n < 1) = true := decide_eq_true hn
  clear hn
  go_enter Try.func12, Try.ntmps12
  go_wp2_with fail
  have H0 := Aside0.mk (ref_start w)
  go_loopg [4] 1 (fun kq v4 w' => ∃ (j : Nat) (AS : Option Addr) (cS : Nat), v4 = .int .i64 (j : Int) ∧ Aside0 (j + kq = 1) ∧ Aside0 (RefAt w.heap.size w.heap.size (.slice AS j cS) (.slice none 0 0) (List.replicate j zeroS) [] w') ∧ Aside0 (Below w.heap.size w w'))
  case atStart => exact ⟨0, none, 0, rfl, ⟨by omega⟩, H0, ⟨below_alloc (Below.refl _ _) _⟩⟩
  case round =>
    obtain ⟨j, AS, cS, rfl, HJ, HR, HB⟩ := hrel
    by_cases hlt : j < 1
    · have p1 : decide ((j : Int) < 1) = true := decide_eq_true (by omega)
      obtain ⟨k1, rfl⟩ : ∃ k1, gk = k1 + 1 := ⟨gk - 1, by have := HJ.out; omega⟩
      have HLT := Aside0.mk hlt
      clear hlt
      go_wp2_with fail
      refine wp_region_held (S := fun U => U.cell? ⟨w.heap.size, 0, none⟩ = some (.slice AS j cS)) (some 10) [5, 6, 7] [0, 1, 2, 3, 4, 5, 6, 7, 8, 9] (by kernel_rfl) rfl (by kernel_rfl) (by kernel_rfl) ((blk_cell (blk_drew HR.out.blk) 0).trans rfl) (fun hHeld => ?_)
      refine held_read (i := 0) (N := (some 16)) (v := ?_) (a' := ?_) rfl rfl rfl (fun _ _ _ h => h) (Or.inl ⟨by rfl, ?_⟩) ?_ ?_
      rotate_left
      · intro w' hS
        go_simp
        with_reducible rfl
      rotate_left
      · simp only [Act.put, List.setIfInBounds_toArray, List.set_cons_zero, List.set_cons_succ, Go.Proofs.YtfmgealooebciaaW.PrintLast.i64_w, Go.Proofs.YtfmgealooebciaaW.PrintLast.i32_w]
        rfl
      refine held_read (i := 1) (N := (some 17)) (v := ?_) (a' := ?_) rfl rfl rfl (fun _ _ _ h => h) (Or.inl ⟨by rfl, ?_⟩) ?_ ?_
      rotate_left
      · intro w' hS
        go_simp
        with_reducible rfl
      rotate_left
      · simp only [Act.put, List.setIfInBounds_toArray, List.set_cons_zero, List.set_cons_succ, Go.Proofs.YtfmgealooebciaaW.PrintLast.i64_w, Go.Proofs.YtfmgealooebciaaW.PrintLast.i32_w]
        rfl
      refine held_read (i := 2) (N := (some 18)) (v := ?_) (a' := ?_) rfl rfl rfl (fun _ _ _ h => h) (Or.inl ⟨by rfl, ?_⟩) ?_ ?_
      rotate_left
      · intro w' hS
        go_simp
        with_reducible rfl
      rotate_left
      · simp only [Act.put, List.setIfInBounds_toArray, List.set_cons_zero, List.set_cons_succ, Go.Proofs.YtfmgealooebciaaW.PrintLast.i64_w, Go.Proofs.YtfmgealooebciaaW.PrintLast.i32_w]
        rfl
      refine held_read (i := 3) (N := (some 19)) (v := ?_) (a' := ?_) rfl rfl rfl (fun _ _ _ h => h) (Or.inl ⟨by rfl, ?_⟩) ?_ ?_
      rotate_left
      · intro w' hS
        go_simp
        with_reducible rfl
      rotate_left
      · simp only [Act.put, List.setIfInBounds_toArray, List.set_cons_zero, List.set_cons_succ, Go.Proofs.YtfmgealooebciaaW.PrintLast.i64_w, Go.Proofs.YtfmgealooebciaaW.PrintLast.i32_w]
        rfl
      refine held_read (i := 4) (N := (some 20)) (v := ?_) (a' := ?_) rfl rfl rfl (fun _ _ _ h => h) (Or.inl ⟨by rfl, ?_⟩) ?_ ?_
      rotate_left
      · intro w' hS
        go_simp
        with_reducible rfl
      rotate_left
      · simp only [Act.put, List.setIfInBounds_toArray, List.set_cons_zero, List.set_cons_succ, Go.Proofs.YtfmgealooebciaaW.PrintLast.i64_w, Go.Proofs.YtfmgealooebciaaW.PrintLast.i32_w]
        rfl
      refine held_run (i := 5) (N := (some 21)) rfl rfl rfl (fun K hK => ?_)
      refine Kd.R_make_step (Kd.int .u8) (w0 := wr) wr.heap.size 5 (by rfl) (N := 21) rfl 30 _ _ rfl 16 rfl rfl Try.underlying30 (.int .u8 0) 1 info5 rfl (by decide) (by omega) 0 (ok := fun _ => True) (okp := fun _ => True) rfl (fun _ hk => hk) trivial (by omega) (by omega) (below_drew (Below.refl _ _)) (Nat.le_refl _) ?_
      intro v1 w1 ho hb1 hg hat
      have HO1 := Aside0.mk ho
      have HB1 := Aside0.mk hb1
      have H1 := Aside0.mk (HR.out.below hb1)
      clear ho hb1 hg hat
      refine hK.out _ _ ((blk_cell H1.out.blk 0).trans rfl) ?_
      clear hK K
      refine held_norm (a' := ?_) ?_ ?_
      rotate_left
      · simp only [Act.put, List.setIfInBounds_toArray, List.set_cons_zero, List.set_cons_succ, Go.Proofs.YtfmgealooebciaaW.PrintLast.i64_w, Go.Proofs.YtfmgealooebciaaW.PrintLast.i32_w]
        rfl
      obtain ⟨Av1, cv1, e1⟩ := Kd.R_slice HO1.out
      subst e1
      refine held_run (i := 6) (N := (some 22)) rfl rfl rfl (fun K hK => ?_)
      go_simp
      refine hK.out _ _ ((blk_cell (blk_alloc H1.out.blk _) 0).trans rfl) ?_
      clear hK K
      refine held_run (i := 7) (N := (some 23)) rfl rfl rfl (fun K hK => ?_)
      refine Kd.R_append_step (Kd.slice 5 (Kd.int .u8)) (w0 := w) (W := w1) w.heap.size (by rfl) (.tmp 20) (.tmp 22) 39 30 (.slice none 0 0) 24 rfl Try.underlying39 info30' rfl (by decide) (by omega) (.slice AS j cS) (List.replicate j zeroS) zeroS [.slice Av1 16 cv1] (fun _ => True) (fun k => True ∧ some k ≠ (Value.slice AS j cS).ownBlock) rfl rfl ?aP (fun _ hk => hk) (fun _ _ => trivial) H1.out.rs ?aB ?aC ?aL ?_
      case aP =>
        obtain ⟨inner, hown⟩ := Kd.R_own H1.out.rs
        exact ⟨_, rfl, R_types' (Kd.R_lower HO1.out HB.out.size) (fun k hk => own_typed hown k hk) (by decide)⟩
      case aB => exact below_then HB.out HB.out.size HB1.out
      case aC => exact Nat.le_trans H1.out.le (Nat.le_of_lt (blk_lt H1.out.blk))
      case aL => have := HLT.out; rw [List.length_replicate]; omega
      intro v2 w2 ho hb2 hg hat
      have hDW : some w.heap.size ≠ (Value.slice AS j cS).ownBlock := Kd.R_ne H1.out.rs H1.out.blk (by decide)
      have HO2 := Aside0.mk ho
      have HB2 := Aside0.mk hb2
      have HD2 := Aside0.mk (blk_grown H1.out.blk hg hDW)
      clear ho hb2 hg hat
      refine hK.out _ _ ((blk_cell HD2.out 0).trans rfl) ?_
      clear hK K
      refine held_norm (a' := ?_) ?_ ?_
      rotate_left
      · simp only [Act.put, List.setIfInBounds_toArray, List.set_cons_zero, List.set_cons_succ, Go.Proofs.YtfmgealooebciaaW.PrintLast.i64_w, Go.Proofs.YtfmgealooebciaaW.PrintLast.i32_w]
        rfl
      refine held_read (i := 8) (N := (some 24)) (v := ?_) (a' := ?_) rfl rfl rfl (fun _ _ _ h => h) (Or.inl ⟨by rfl, ?_⟩) ?_ ?_
      rotate_left
      · intro w' hS
        go_simp
        with_reducible rfl
      rotate_left
      · simp only [Act.put, List.setIfInBounds_toArray, List.set_cons_zero, List.set_cons_succ, Go.Proofs.YtfmgealooebciaaW.PrintLast.i64_w, Go.Proofs.YtfmgealooebciaaW.PrintLast.i32_w]
        rfl
      refine held_read (i := 9) (N := (some 25)) (v := ?_) (a' := ?_) rfl rfl rfl (fun _ _ _ h => h) (Or.inl ⟨by rfl, ?_⟩) ?_ ?_
      rotate_left
      · intro w' hS
        go_simp
        with_reducible rfl
      rotate_left
      · simp only [Act.put, List.setIfInBounds_toArray, List.set_cons_zero, List.set_cons_succ, Go.Proofs.YtfmgealooebciaaW.PrintLast.i64_w, Go.Proofs.YtfmgealooebciaaW.PrintLast.i32_w]
        rfl
      refine held_last (z := 10) (N := none) rfl rfl (fun K hK => ?_)
      obtain ⟨A2, c2, e2⟩ := Kd.R_slice HO2.out
      rw [List.length_append, List.length_replicate] at e2
      subst e2
      have q1 := blk_cell HD2.out 0
      have f1 := blk_frozen HD2.out 0
      go_simp
      refine hK.out _ _ ?_
      clear hK K q1 f1
      go_wp2
      go_roundg k1
      case measure => omega
      case rel =>
        refine ⟨j + 1, A2, c2, ?_, ⟨by have := HJ.out; omega⟩, ⟨blk_put HD2.out 0 _ rfl, Nat.le_refl _, ?_, Kd.R_nil _ _ _ _ _⟩, ⟨?_⟩⟩
        · exact congrArg (Value.int .i64) (widx (by have := HLT.out; omega))
        · rw [List.replicate_succ']
          exact Kd.R_set HO2.out HD2.out (by decide) 0 _
        · exact HB2.out.setCell (Nat.le_refl _) _
    · have hj1 : j = 1 := by have := HJ.out; omega
      subst hj1
      have p1 : decide (((1 : Nat) : Int) < 1) = false := decide_eq_false (by omega)
      clear hlt
      go_wp2
      go_ret
      exact ⟨_, _, rfl, HR.out, HB.out⟩
set_option maxHeartbeats 2000000 in
set_option maxRecDepth 100000 in
theorem refnew_hi (n : Int) (hn : 512 < n) (w : World) : Calls Try.prog 12 #[.int .i64 n] w fun x w' => ∃ AS cS, x = .returned (.pointer (some ⟨w.heap.size, 0, none⟩)) ∧ RefAt w.heap.size w.heap.size (.slice AS 512 cS) (.slice none 0 0) (List.replicate 512 zeroS) [] w' ∧ Below w.heap.size w w' := by
  have c1 : decide (n < 1) = false := decide_eq_false (by omega)
  have c2 : decide (n > 512) = true := decide_eq_true hn
  clear hn
  go_enter Try.func12, Try.ntmps12
  go_wp2_with fail
  have H0 := Aside0.mk (ref_start w)
  go_loopg [4] 512 (fun kq v4 w' => ∃ (j : Nat) (AS : Option Addr) (cS : Nat), v4 = .int .i64 (j : Int) ∧ Aside0 (j + kq = 512) ∧ Aside0 (RefAt w.heap.size w.heap.size (.slice AS j cS) (.slice none 0 0) (List.replicate j zeroS) [] w') ∧ Aside0 (Below w.heap.size w w'))
  case atStart => exact ⟨0, none, 0, rfl, ⟨by omega⟩, H0, ⟨below_alloc (Below.refl _ _) _⟩⟩
  case round =>
    obtain ⟨j, AS, cS, rfl, HJ, HR, HB⟩ := hrel
    by_cases hlt : j < 512
    · have p1 : decide ((j : Int) < 512) = true := decide_eq_true (by omega)
      obtain ⟨k1, rfl⟩ : ∃ k1, gk = k1 + 1 := ⟨gk - 1, by have := HJ.out; omega⟩
      have HLT := Aside0.mk hlt
      clear hlt
      go_wp2_with fail
      refine wp_region_held (S := fun U => U.cell? ⟨w.heap.size, 0, none⟩ = some (.slice AS j cS)) (some 10) [5, 6, 7] [0, 1, 2, 3, 4, 5, 6, 7, 8, 9] (by kernel_rfl) rfl (by kernel_rfl) (by kernel_rfl) ((blk_cell (blk_drew HR.out.blk) 0).trans rfl) (fun hHeld => ?_)
      refine held_read (i := 0) (N := (some 16)) (v := ?_) (a' := ?_) rfl rfl rfl (fun _ _ _ h => h) (Or.inl ⟨by rfl, ?_⟩) ?_ ?_
      rotate_left
      · intro w' hS
        go_simp
        with_reducible rfl
      rotate_left
      · simp only [Act.put, List.setIfInBounds_toArray, List.set_cons_zero, List.set_cons_succ, Go.Proofs.YtfmgealooebciaaW.PrintLast.i64_w, Go.Proofs.YtfmgealooebciaaW.PrintLast.i32_w]
        rfl
      refine held_read (i := 1) (N := (some 17)) (v := ?_) (a' := ?_) rfl rfl rfl (fun _ _ _ h => h) (Or.inl ⟨by rfl, ?_⟩) ?_ ?_
      rotate_left
      · intro w' hS
        go_simp
        with_reducible rfl
      rotate_left
      · simp only [Act.put, List.setIfInBounds_toArray, List.set_cons_zero, List.set_cons_succ, Go.Proofs.YtfmgealooebciaaW.PrintLast.i64_w, Go.Proofs.YtfmgealooebciaaW.PrintLast.i32_w]
        rfl
      refine held_read (i := 2) (N := (some 18)) (v := ?_) (a' := ?_) rfl rfl rfl (fun _ _ _ h => h) (Or.inl ⟨by rfl, ?_⟩) ?_ ?_
      rotate_left
      · intro w' hS
        go_simp
        with_reducible rfl
      rotate_left
      · simp only [Act.put, List.setIfInBounds_toArray, List.set_cons_zero, List.set_cons_succ, Go.Proofs.YtfmgealooebciaaW.PrintLast.i64_w, Go.Proofs.YtfmgealooebciaaW.PrintLast.i32_w]
        rfl
      refine held_read (i := 3) (N := (some 19)) (v := ?_) (a' := ?_) rfl rfl rfl (fun _ _ _ h => h) (Or.inl ⟨by rfl, ?_⟩) ?_ ?_
      rotate_left
      · intro w' hS
        go_simp
        with_reducible rfl
      rotate_left
      · simp only [Act.put, List.setIfInBounds_toArray, List.set_cons_zero, List.set_cons_succ, Go.Proofs.YtfmgealooebciaaW.PrintLast.i64_w, Go.Proofs.YtfmgealooebciaaW.PrintLast.i32_w]
        rfl
      refine held_read (i := 4) (N := (some 20)) (v := ?_) (a' := ?_) rfl rfl rfl (fun _ _ _ h => h) (Or.inl ⟨by rfl, ?_⟩) ?_ ?_
      rotate_left
      · intro w' hS
        go_simp
        with_reducible rfl
      rotate_left
      · simp only [Act.put, List.setIfInBounds_toArray, List.set_cons_zero, List.set_cons_succ, Go.Proofs.YtfmgealooebciaaW.PrintLast.i64_w, Go.Proofs.YtfmgealooebciaaW.PrintLast.i32_w]
        rfl
      refine held_run (i := 5) (N := (some 21)) rfl rfl rfl (fun K hK => ?_)
      refine Kd.R_make_step (Kd.int .u8) (w0 := wr) wr.heap.size 5 (by rfl) (N := 21) rfl 30 _ _ rfl 16 rfl rfl Try.underlying30 (.int .u8 0) 1 info5 rfl (by decide) (by omega) 0 (ok := fun _ => True) (okp := fun _ => True) rfl (fun _ hk => hk) trivial (by omega) (by omega) (below_drew (Below.refl _ _)) (Nat.le_refl _) ?_
      intro v1 w1 ho hb1 hg hat
      have HO1 := Aside0.mk ho
      have HB1 := Aside0.mk hb1
      have H1 := Aside0.mk (HR.out.below hb1)
      clear ho hb1 hg hat
      refine hK.out _ _ ((blk_cell H1.out.blk 0).trans rfl) ?_
      clear hK K
      refine held_norm (a' := ?_) ?_ ?_
      rotate_left
      · simp only [Act.put, List.setIfInBounds_toArray, List.set_cons_zero, List.set_cons_succ, Go.Proofs.YtfmgealooebciaaW.PrintLast.i64_w, Go.Proofs.YtfmgealooebciaaW.PrintLast.i32_w]
        rfl
      obtain ⟨Av1, cv1, e1⟩ := Kd.R_slice HO1.out
      subst e1
      refine held_run (i := 6) (N := (some 22)) rfl rfl rfl (fun K hK => ?_)
      go_simp
      refine hK.out _ _ ((blk_cell (blk_alloc H1.out.blk _) 0).trans rfl) ?_
      clear hK K
      refine held_run (i := 7) (N := (some 23)) rfl rfl rfl (fun K hK => ?_)
      refine Kd.R_append_step (Kd.slice 5 (Kd.int .u8)) (w0 := w) (W := w1) w.heap.size (by rfl) (.tmp 20) (.tmp 22) 39 30 (.slice none 0 0) 24 rfl Try.underlying39 info30' rfl (by decide) (by omega) (.slice AS j cS) (List.replicate j zeroS) zeroS [.slice Av1 16 cv1] (fun _ => True) (fun k => True ∧ some k ≠ (Value.slice AS j cS).ownBlock) rfl rfl ?aP (fun _ hk => hk) (fun _ _ => trivial) H1.out.rs ?aB ?aC ?aL ?_
      case aP =>
        obtain ⟨inner, hown⟩ := Kd.R_own H1.out.rs
        exact ⟨_, rfl, R_types' (Kd.R_lower HO1.out HB.out.size) (fun k hk => own_typed hown k hk) (by decide)⟩
      case aB => exact below_then HB.out HB.out.size HB1.out
      case aC => exact Nat.le_trans H1.out.le (Nat.le_of_lt (blk_lt H1.out.blk))
      case aL => have := HLT.out; rw [List.length_replicate]; omega
      intro v2 w2 ho hb2 hg hat
      have hDW : some w.heap.size ≠ (Value.slice AS j cS).ownBlock := Kd.R_ne H1.out.rs H1.out.blk (by decide)
      have HO2 := Aside0.mk ho
      have HB2 := Aside0.mk hb2
      have HD2 := Aside0.mk (blk_grown H1.out.blk hg hDW)
      clear ho hb2 hg hat
      refine hK.out _ _ ((blk_cell HD2.out 0).trans rfl) ?_
      clear hK K
      refine held_norm (a' := ?_) ?_ ?_
      rotate_left
      · simp only [Act.put, List.setIfInBounds_toArray, List.set_cons_zero, List.set_cons_succ, Go.Proofs.YtfmgealooebciaaW.PrintLast.i64_w, Go.Proofs.YtfmgealooebciaaW.PrintLast.i32_w]
        rfl
      refine held_read (i := 8) (N := (some 24)) (v := ?_) (a' := ?_) rfl rfl rfl (fun _ _ _ h => h) (Or.inl ⟨by rfl, ?_⟩) ?_ ?_
      rotate_left
      · intro w' hS
        go_simp
        with_reducible rfl
      rotate_left
      · simp only [Act.put, List.setIfInBounds_toArray, List.set_cons_zero, List.set_cons_succ, Go.Proofs.YtfmgealooebciaaW.PrintLast.i64_w, Go.Proofs.YtfmgealooebciaaW.PrintLast.i32_w]
        rfl
      refine held_read (i := 9) (N := (some 25)) (v := ?_) (a' := ?_) rfl rfl rfl (fun _ _ _ h => h) (Or.inl ⟨by rfl, ?_⟩) ?_ ?_
      rotate_left
      · intro w' hS
        go_simp
        with_reducible rfl
      rotate_left
      · simp only [Act.put, List.setIfInBounds_toArray, List.set_cons_zero, List.set_cons_succ, Go.Proofs.YtfmgealooebciaaW.PrintLast.i64_w, Go.Proofs.YtfmgealooebciaaW.PrintLast.i32_w]
        rfl
      refine held_last (z := 10) (N := none) rfl rfl (fun K hK => ?_)
      obtain ⟨A2, c2, e2⟩ := Kd.R_slice HO2.out
      rw [List.length_append, List.length_replicate] at e2
      subst e2
      have q1 := blk_cell HD2.out 0
      have f1 := blk_frozen HD2.out 0
      go_simp
      refine hK.out _ _ ?_
      clear hK K q1 f1
      go_wp2
      go_roundg k1
      case measure => omega
      case rel =>
        refine ⟨j + 1, A2, c2, ?_, ⟨by have := HJ.out; omega⟩, ⟨blk_put HD2.out 0 _ rfl, Nat.le_refl _, ?_, Kd.R_nil _ _ _ _ _⟩, ⟨?_⟩⟩
        · exact congrArg (Value.int .i64) (widx (by have := HLT.out; omega))
        · rw [List.replicate_succ']
          exact Kd.R_set HO2.out HD2.out (by decide) 0 _
        · exact HB2.out.setCell (Nat.le_refl _) _
    · have hj1 : j = 512 := by have := HJ.out; omega
      subst hj1
      have p1 : decide (((512 : Nat) : Int) < 512) = false := decide_eq_false (by omega)
      clear hlt
      go_wp2
      go_ret
      exact ⟨_, _, rfl, HR.out, HB.out⟩
set_option maxHeartbeats 2000000 in
set_option maxRecDepth 100000 in
theorem refnew_mid (m : Nat) (h1 : 1 ≤ m) (h2 : m ≤ 512) (w : World) : Calls Try.prog 12 #[.int .i64 (m : Int)] w fun x w' => ∃ AS cS, x = .returned (.pointer (some ⟨w.heap.size, 0, none⟩)) ∧ RefAt w.heap.size w.heap.size (.slice AS m cS) (.slice none 0 0) (List.replicate m zeroS) [] w' ∧ Below w.heap.size w w' := by
  have c1 : decide ((m : Int) < 1) = false := decide_eq_false (by omega)
  have c2 : decide ((m : Int) > 512) = false := decide_eq_false (by omega)
  have HM := Aside0.mk h2
  clear h1 h2
  go_enter Try.func12, Try.ntmps12
  go_wp2_with fail
  have H0 := Aside0.mk (ref_start w)
  go_loopg [4] m (fun kq v4 w' => ∃ (j : Nat) (AS : Option Addr) (cS : Nat), v4 = .int .i64 (j : Int) ∧ Aside0 (j + kq = m) ∧ Aside0 (RefAt w.heap.size w.heap.size (.slice AS j cS) (.slice none 0 0) (List.replicate j zeroS) [] w') ∧ Aside0 (Below w.heap.size w w'))
  case atStart => exact ⟨0, none, 0, rfl, ⟨by omega⟩, H0, ⟨below_alloc (Below.refl _ _) _⟩⟩
  case round =>
    obtain ⟨j, AS, cS, rfl, HJ, HR, HB⟩ := hrel
    by_cases hlt : j < m
    · have p0 : decide (j < m) = true := decide_eq_true hlt
      have p1 : decide ((j : Int) < (m : Int)) = true := decide_eq_true (by omega)
      obtain ⟨k1, rfl⟩ : ∃ k1, gk = k1 + 1 := ⟨gk - 1, by have := HJ.out; omega⟩
      have HLT := Aside0.mk hlt
      clear hlt
      go_wp2_with fail
      refine wp_region_held (S := fun U => U.cell? ⟨w.heap.size, 0, none⟩ = some (.slice AS j cS)) (some 10) [5, 6, 7] [0, 1, 2, 3, 4, 5, 6, 7, 8, 9] (by kernel_rfl) rfl (by kernel_rfl) (by kernel_rfl) ((blk_cell (blk_drew HR.out.blk) 0).trans rfl) (fun hHeld => ?_)
      refine held_read (i := 0) (N := (some 16)) (v := ?_) (a' := ?_) rfl rfl rfl (fun _ _ _ h => h) (Or.inl ⟨by rfl, ?_⟩) ?_ ?_
      rotate_left
      · intro w' hS
        go_simp
        with_reducible rfl
      rotate_left
      · simp only [Act.put, List.setIfInBounds_toArray, List.set_cons_zero, List.set_cons_succ, Go.Proofs.YtfmgealooebciaaW.PrintLast.i64_w, Go.Proofs.YtfmgealooebciaaW.PrintLast.i32_w]
        rfl
      refine held_read (i := 1) (N := (some 17)) (v := ?_) (a' := ?_) rfl rfl rfl (fun _ _ _ h => h) (Or.inl ⟨by rfl, ?_⟩) ?_ ?_
      rotate_left
      · intro w' hS
        go_simp
        with_reducible rfl
      rotate_left
      · simp only [Act.put, List.setIfInBounds_toArray, List.set_cons_zero, List.set_cons_succ, Go.Proofs.YtfmgealooebciaaW.PrintLast.i64_w, Go.Proofs.YtfmgealooebciaaW.PrintLast.i32_w]
        rfl
      refine held_read (i := 2) (N := (some 18)) (v := ?_) (a' := ?_) rfl rfl rfl (fun _ _ _ h => h) (Or.inl ⟨by rfl, ?_⟩) ?_ ?_
      rotate_left
      · intro w' hS
        go_simp
        with_reducible rfl
      rotate_left
      · simp only [Act.put, List.setIfInBounds_toArray, List.set_cons_zero, List.set_cons_succ, Go.Proofs.YtfmgealooebciaaW.PrintLast.i64_w, Go.Proofs.YtfmgealooebciaaW.PrintLast.i32_w]
        rfl
      refine held_read (i := 3) (N := (some 19)) (v := ?_) (a' := ?_) rfl rfl rfl (fun _ _ _ h => h) (Or.inl ⟨by rfl, ?_⟩) ?_ ?_
      rotate_left
      · intro w' hS
        go_simp
        with_reducible rfl
      rotate_left
      · simp only [Act.put, List.setIfInBounds_toArray, List.set_cons_zero, List.set_cons_succ, Go.Proofs.YtfmgealooebciaaW.PrintLast.i64_w, Go.Proofs.YtfmgealooebciaaW.PrintLast.i32_w]
        rfl
      refine held_read (i := 4) (N := (some 20)) (v := ?_) (a' := ?_) rfl rfl rfl (fun _ _ _ h => h) (Or.inl ⟨by rfl, ?_⟩) ?_ ?_
      rotate_left
      · intro w' hS
        go_simp
        with_reducible rfl
      rotate_left
      · simp only [Act.put, List.setIfInBounds_toArray, List.set_cons_zero, List.set_cons_succ, Go.Proofs.YtfmgealooebciaaW.PrintLast.i64_w, Go.Proofs.YtfmgealooebciaaW.PrintLast.i32_w]
        rfl
      refine held_run (i := 5) (N := (some 21)) rfl rfl rfl (fun K hK => ?_)
      refine Kd.R_make_step (Kd.int .u8) (w0 := wr) wr.heap.size 5 (by rfl) (N := 21) rfl 30 _ _ rfl 16 rfl rfl Try.underlying30 (.int .u8 0) 1 info5 rfl (by decide) (by omega) 0 (ok := fun _ => True) (okp := fun _ => True) rfl (fun _ hk => hk) trivial (by omega) (by omega) (below_drew (Below.refl _ _)) (Nat.le_refl _) ?_
      intro v1 w1 ho hb1 hg hat
      have HO1 := Aside0.mk ho
      have HB1 := Aside0.mk hb1
      have H1 := Aside0.mk (HR.out.below hb1)
      clear ho hb1 hg hat
      refine hK.out _ _ ((blk_cell H1.out.blk 0).trans rfl) ?_
      clear hK K
      refine held_norm (a' := ?_) ?_ ?_
      rotate_left
      · simp only [Act.put, List.setIfInBounds_toArray, List.set_cons_zero, List.set_cons_succ, Go.Proofs.YtfmgealooebciaaW.PrintLast.i64_w, Go.Proofs.YtfmgealooebciaaW.PrintLast.i32_w]
        rfl
      obtain ⟨Av1, cv1, e1⟩ := Kd.R_slice HO1.out
      subst e1
      refine held_run (i := 6) (N := (some 22)) rfl rfl rfl (fun K hK => ?_)
      go_simp
      refine hK.out _ _ ((blk_cell (blk_alloc H1.out.blk _) 0).trans rfl) ?_
      clear hK K
      refine held_run (i := 7) (N := (some 23)) rfl rfl rfl (fun K hK => ?_)
      refine Kd.R_append_step (Kd.slice 5 (Kd.int .u8)) (w0 := w) (W := w1) w.heap.size (by rfl) (.tmp 20) (.tmp 22) 39 30 (.slice none 0 0) 24 rfl Try.underlying39 info30' rfl (by decide) (by omega) (.slice AS j cS) (List.replicate j zeroS) zeroS [.slice Av1 16 cv1] (fun _ => True) (fun k => True ∧ some k ≠ (Value.slice AS j cS).ownBlock) rfl rfl ?aP (fun _ hk => hk) (fun _ _ => trivial) H1.out.rs ?aB ?aC ?aL ?_
      case aP =>
        obtain ⟨inner, hown⟩ := Kd.R_own H1.out.rs
        exact ⟨_, rfl, R_types' (Kd.R_lower HO1.out HB.out.size) (fun k hk => own_typed hown k hk) (by decide)⟩
      case aB => exact below_then HB.out HB.out.size HB1.out
      case aC => exact Nat.le_trans H1.out.le (Nat.le_of_lt (blk_lt H1.out.blk))
      case aL => have := HLT.out; rw [List.length_replicate]; have := HM.out; omega
      intro v2 w2 ho hb2 hg hat
      have hDW : some w.heap.size ≠ (Value.slice AS j cS).ownBlock := Kd.R_ne H1.out.rs H1.out.blk (by decide)
      have HO2 := Aside0.mk ho
      have HB2 := Aside0.mk hb2
      have HD2 := Aside0.mk (blk_grown H1.out.blk hg hDW)
      clear ho hb2 hg hat
      refine hK.out _ _ ((blk_cell HD2.out 0).trans rfl) ?_
      clear hK K
      refine held_norm (a' := ?_) ?_ ?_
      rotate_left
      · simp only [Act.put, List.setIfInBounds_toArray, List.set_cons_zero, List.set_cons_succ, Go.Proofs.YtfmgealooebciaaW.PrintLast.i64_w, Go.Proofs.YtfmgealooebciaaW.PrintLast.i32_w]
        rfl
      refine held_read (i := 8) (N := (some 24)) (v := ?_) (a' := ?_) rfl rfl rfl (fun _ _ _ h => h) (Or.inl ⟨by rfl, ?_⟩) ?_ ?_
      rotate_left
      · intro w' hS
        go_simp
        with_reducible rfl
      rotate_left
      · simp only [Act.put, List.setIfInBounds_toArray, List.set_cons_zero, List.set_cons_succ, Go.Proofs.YtfmgealooebciaaW.PrintLast.i64_w, Go.Proofs.YtfmgealooebciaaW.PrintLast.i32_w]
        rfl
      refine held_read (i := 9) (N := (some 25)) (v := ?_) (a' := ?_) rfl rfl rfl (fun _ _ _ h => h) (Or.inl ⟨by rfl, ?_⟩) ?_ ?_
      rotate_left
      · intro w' hS
        go_simp
        with_reducible rfl
      rotate_left
      · simp only [Act.put, List.setIfInBounds_toArray, List.set_cons_zero, List.set_cons_succ, Go.Proofs.YtfmgealooebciaaW.PrintLast.i64_w, Go.Proofs.YtfmgealooebciaaW.PrintLast.i32_w]
        rfl
      refine held_last (z := 10) (N := none) rfl rfl (fun K hK => ?_)
      obtain ⟨A2, c2, e2⟩ := Kd.R_slice HO2.out
      rw [List.length_append, List.length_replicate] at e2
      subst e2
      have q1 := blk_cell HD2.out 0
      have f1 := blk_frozen HD2.out 0
      go_simp
      refine hK.out _ _ ?_
      clear hK K q1 f1
      go_wp2
      go_roundg k1
      case measure => omega
      case rel =>
        refine ⟨j + 1, A2, c2, ?_, ⟨by have := HJ.out; omega⟩, ⟨blk_put HD2.out 0 _ rfl, Nat.le_refl _, ?_, Kd.R_nil _ _ _ _ _⟩, ⟨?_⟩⟩
        · exact congrArg (Value.int .i64) (widx (by have := HLT.out; have := HM.out; omega))
        · rw [List.replicate_succ']
          exact Kd.R_set HO2.out HD2.out (by decide) 0 _
        · exact HB2.out.setCell (Nat.le_refl _) _
    · obtain rfl : m = j := by have := HJ.out; omega
      have p0 : decide (m < m) = false := decide_eq_false (by omega)
      have p1 : decide (((m : Nat) : Int) < (m : Int)) = false := decide_eq_false (by omega)
      clear hlt
      go_wp2
      go_ret
      exact ⟨_, _, rfl, HR.out, HB.out⟩
theorem refnew_tot (n : Int) (w : World) : Calls Try.prog 12 #[.int .i64 n] w fun x w' => ∃ AS cS, x = .returned (.pointer (some ⟨w.heap.size, 0, none⟩)) ∧ RefAt w.heap.size w.heap.size (.slice AS (clampN n) cS) (.slice none 0 0) (List.replicate (clampN n) zeroS) [] w' ∧ Below w.heap.size w w' := by
  by_cases c1 : n < 1
  · have e : clampN n = 1 := by unfold clampN; rw [if_pos c1]; rfl
    rw [e]; exact refnew_lo n c1 w
  · by_cases c2 : 512 < n
    · have e : clampN n = 512 := by unfold clampN; rw [if_neg c1, if_pos c2]; rfl
      rw [e]; exact refnew_hi n c2 w
    · obtain ⟨m, rfl⟩ : ∃ m : Nat, n = (m : Int) := ⟨n.toNat, by omega⟩
      have e : clampN (m : Int) = m := by unfold clampN; rw [if_neg c1, if_neg c2]; rfl
      rw [e]; exact refnew_mid m (by omega) (by omega) w
end Go.Proofs.Ytfmgealooebciaa.PAll
