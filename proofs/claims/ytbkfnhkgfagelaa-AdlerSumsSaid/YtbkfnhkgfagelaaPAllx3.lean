/- The machine's side of this claim, written by a program of this session out of the translation: for each Go function a Lean function of its answers, and the proof that the code comes to just these. Conditions: those that each theorem states. -/
import Derived.Test.YtbkfnhkgfagelaaPAllx0
import Derived.Test.YtbkfnhkgfagelaaPAllx2
namespace Go.Proofs.Ytbkfnhkgfagelaa.PAll
open Go.RowKit Go.Proofs.YtbkfnhkgfagelaaW.PrintWords Go.Proofs.YtbkfnhkgfagelaaW.PrintLast Go.Proofs.YtbkfnhkgfagelaaW.PrintMore
attribute [local go_sem] max2_int min2_int max_two min_two max_three min_three max_four min_four   -- for this text's walks alone
set_option linter.unusedVariables false
set_option linter.unusedSimpArgs false

/-! ### colloquylaw02_AdlerTurns: function 3 -/
mutual
def colloquylaw02_AdlerTurns.j0 : Nat → List Int → Int → Int → Bool → Bool → Option (Bool)
  | 0, _, _, _, _, _ => none
  | k + 1, x0, x1, x2, x7, x27 => if x27 = true then (some x7) else (if ([] : List Int).length + x0.length < 140737488355328 then ((some (([] : List Int) ++ x0 : List Int)).bind fun y123 => (if 0 ≤ x1 then (if x1 < (y123.length : Int) then (if x1 < (x0.length : Int) then (if x2 = (rd x0 x1) then (colloquylaw02_AdlerTurns.j1 k x0 x1 false) else ((adler_Sum.f k (y123.set (x1 : Int).toNat x2)).bind fun t128 => ((adler_Sum.f k x0).bind fun t129 => (colloquylaw02_AdlerTurns.j1 k x0 x1 (t128 == t129))))) else (none)) else (none)) else (none))) else (none))
def colloquylaw02_AdlerTurns.j1 : Nat → List Int → Int → Bool → Option (Bool)
  | 0, _, _, _ => none
  | k + 1, x0, x1, x47 => if x47 = true then (some false) else (if x1 = 0 then (colloquylaw02_AdlerTurns.j2 k x0 x1 true) else (if 0 ≤ x1 then (if x1 < (x0.length : Int) then (if 0 ≤ (wrap64 (x1 - 1)) then (if (wrap64 (x1 - 1)) < (x0.length : Int) then (colloquylaw02_AdlerTurns.j2 k x0 x1 ((rd x0 x1) == (rd x0 (wrap64 (x1 - 1))))) else (none)) else (none)) else (none)) else (none)))
def colloquylaw02_AdlerTurns.j2 : Nat → List Int → Int → Bool → Option (Bool)
  | 0, _, _, _ => none
  | k + 1, x0, x1, x61 => if x61 = true then (some true) else (if ([] : List Int).length + x0.length < 140737488355328 then ((some (([] : List Int) ++ x0 : List Int)).bind fun y132 => (if 0 ≤ (wrap64 (x1 - 1)) then (if (wrap64 (x1 - 1)) < (x0.length : Int) then (if 0 ≤ x1 then (if x1 < (y132.length : Int) then (if x1 < (x0.length : Int) then (if (wrap64 (x1 - 1)) < (y132.length : Int) then ((adler_Sum.f k ((y132.set (x1 : Int).toNat (rd x0 (wrap64 (x1 - 1)))).set ((wrap64 (x1 - 1)) : Int).toNat (rd x0 x1))).bind fun t139 => ((adler_Sum.f k x0).bind fun t140 => (some (t139 != t140)))) else (none)) else (none)) else (none)) else (none)) else (none)) else (none))) else (none))
end
def colloquylaw02_AdlerTurns.f (k : Nat) (l0 : List Int) (a1 : Int) (a2 : Int) : Option (Bool) := (colloquylaw02_awake.f k).bind fun t122 => (if t122 = true then (if (l0.length : Int) > 6000 then (colloquylaw02_AdlerTurns.j0 k l0 a1 a2 t122 true) else (if a1 < 0 then (colloquylaw02_AdlerTurns.j0 k l0 a1 a2 t122 true) else (colloquylaw02_AdlerTurns.j0 k l0 a1 a2 t122 (decide (a1 ≥ (l0.length : Int)))))) else (colloquylaw02_AdlerTurns.j0 k l0 a1 a2 t122 true))
theorem colloquylaw02_AdlerTurns.mono_l : ∀ k, (∀ y0 y1 y2 y3 y4, LeO (colloquylaw02_AdlerTurns.j0 k y0 y1 y2 y3 y4) (colloquylaw02_AdlerTurns.j0 (k + 1) y0 y1 y2 y3 y4)) ∧ (∀ y0 y1 y2, LeO (colloquylaw02_AdlerTurns.j1 k y0 y1 y2) (colloquylaw02_AdlerTurns.j1 (k + 1) y0 y1 y2)) ∧ (∀ y0 y1 y2, LeO (colloquylaw02_AdlerTurns.j2 k y0 y1 y2) (colloquylaw02_AdlerTurns.j2 (k + 1) y0 y1 y2))
  | 0 => ⟨fun _ _ _ _ _ r h => by simp [colloquylaw02_AdlerTurns.j0] at h, fun _ _ _ r h => by simp [colloquylaw02_AdlerTurns.j1] at h, fun _ _ _ r h => by simp [colloquylaw02_AdlerTurns.j2] at h⟩
  | k + 1 => by
    obtain ⟨ih0, ih1, ih2⟩ := colloquylaw02_AdlerTurns.mono_l k
    refine ⟨?_, ?_, ?_⟩
    · intro y0 y1 y2 y3 y4
      unfold colloquylaw02_AdlerTurns.j0
      repeat' first
      | (with_reducible exact ih0 _ _ _ _ _)
      | (with_reducible exact ih1 _ _ _)
      | (with_reducible exact ih2 _ _ _)
      | (with_reducible exact adler_Sum.mono _ _)
      | (with_reducible exact colloquylaw02_awake.mono _)
      | (with_reducible exact LeO.refl _)
      | (with_reducible exact LeO.none _)
      | (with_reducible refine LeO.ite ?_ ?_)
      | (with_reducible refine LeO.bind ?_ (fun _ => ?_))
      | exact ih0 _ _ _ _ _
      | exact ih1 _ _ _
      | exact ih2 _ _ _
      | exact adler_Sum.mono _ _
      | exact colloquylaw02_awake.mono _
      | exact LeO.none _
      | refine LeO.ite ?_ ?_
      | refine LeO.bind ?_ (fun _ => ?_)
    · intro y0 y1 y2
      unfold colloquylaw02_AdlerTurns.j1
      repeat' first
      | (with_reducible exact ih0 _ _ _ _ _)
      | (with_reducible exact ih1 _ _ _)
      | (with_reducible exact ih2 _ _ _)
      | (with_reducible exact adler_Sum.mono _ _)
      | (with_reducible exact colloquylaw02_awake.mono _)
      | (with_reducible exact LeO.refl _)
      | (with_reducible exact LeO.none _)
      | (with_reducible refine LeO.ite ?_ ?_)
      | (with_reducible refine LeO.bind ?_ (fun _ => ?_))
      | exact ih0 _ _ _ _ _
      | exact ih1 _ _ _
      | exact ih2 _ _ _
      | exact adler_Sum.mono _ _
      | exact colloquylaw02_awake.mono _
      | exact LeO.none _
      | refine LeO.ite ?_ ?_
      | refine LeO.bind ?_ (fun _ => ?_)
    · intro y0 y1 y2
      unfold colloquylaw02_AdlerTurns.j2
      repeat' first
      | (with_reducible exact ih0 _ _ _ _ _)
      | (with_reducible exact ih1 _ _ _)
      | (with_reducible exact ih2 _ _ _)
      | (with_reducible exact adler_Sum.mono _ _)
      | (with_reducible exact colloquylaw02_awake.mono _)
      | (with_reducible exact LeO.refl _)
      | (with_reducible exact LeO.none _)
      | (with_reducible refine LeO.ite ?_ ?_)
      | (with_reducible refine LeO.bind ?_ (fun _ => ?_))
      | exact ih0 _ _ _ _ _
      | exact ih1 _ _ _
      | exact ih2 _ _ _
      | exact adler_Sum.mono _ _
      | exact colloquylaw02_awake.mono _
      | exact LeO.none _
      | refine LeO.ite ?_ ?_
      | refine LeO.bind ?_ (fun _ => ?_)
theorem colloquylaw02_AdlerTurns.mono : ∀ a0 a1 a2 k, LeO (colloquylaw02_AdlerTurns.f k a0 a1 a2) (colloquylaw02_AdlerTurns.f (k + 1) a0 a1 a2) := by
  intro a0 a1 a2 k
  obtain ⟨ih0, ih1, ih2⟩ := colloquylaw02_AdlerTurns.mono_l k
  unfold colloquylaw02_AdlerTurns.f
  repeat' first
      | (with_reducible exact ih0 _ _ _ _ _)
      | (with_reducible exact ih1 _ _ _)
      | (with_reducible exact ih2 _ _ _)
      | (with_reducible exact adler_Sum.mono _ _)
      | (with_reducible exact colloquylaw02_awake.mono _)
      | (with_reducible exact LeO.refl _)
      | (with_reducible exact LeO.none _)
      | (with_reducible refine LeO.ite ?_ ?_)
      | (with_reducible refine LeO.bind ?_ (fun _ => ?_))
      | exact ih0 _ _ _ _ _
      | exact ih1 _ _ _
      | exact ih2 _ _ _
      | exact adler_Sum.mono _ _
      | exact colloquylaw02_awake.mono _
      | exact LeO.none _
      | refine LeO.ite ?_ ?_
      | refine LeO.bind ?_ (fun _ => ?_)
set_option maxHeartbeats 8000000 in
set_option maxRecDepth 100000 in
theorem colloquylaw02_AdlerTurns.calls (k : Nat) (A0 : Option Addr) (c0 : Nat) (l0 : List Int) (a1 : Int) (a2 : Int) (r : Bool) (w : World) (hr0 : Kd.C (Kd.int .u8) w A0 l0.length l0) (hc0 : l0.length ≤ c0) (h : colloquylaw02_AdlerTurns.f k l0 a1 a2 = some r) :
    Calls Try.prog 3 #[.slice A0 l0.length c0, .int .i64 a1, .int .u8 a2] w fun e w' => e = .returned (.bool r) ∧ Below w.heap.size w w' := by
  have HR0 := Aside0.mk hr0
  have HC0 := Aside0.mk hc0
  clear hr0 hc0
  have HB := Aside0.mk (Below.refl w.heap.size w)
  have H : ((colloquylaw02_awake.f k).bind fun t122 => (if t122 = true then (if (l0.length : Int) > 6000 then (colloquylaw02_AdlerTurns.j0 k l0 a1 a2 t122 true) else (if a1 < 0 then (colloquylaw02_AdlerTurns.j0 k l0 a1 a2 t122 true) else (colloquylaw02_AdlerTurns.j0 k l0 a1 a2 t122 (decide (a1 ≥ (l0.length : Int)))))) else (colloquylaw02_AdlerTurns.j0 k l0 a1 a2 t122 true))) = some r := h
  clear h
  replace H := Option.bind_eq_some_iff.mp H
  obtain ⟨t122, A40, H⟩ := H
  replace H : (if t122 = true then (if (l0.length : Int) > 6000 then (colloquylaw02_AdlerTurns.j0 k l0 a1 a2 t122 true) else (if a1 < 0 then (colloquylaw02_AdlerTurns.j0 k l0 a1 a2 t122 true) else (colloquylaw02_AdlerTurns.j0 k l0 a1 a2 t122 (decide (a1 ≥ (l0.length : Int)))))) else (colloquylaw02_AdlerTurns.j0 k l0 a1 a2 t122 true)) = some r := H
  have A4 := Aside0.mk A40
  clear A40
  have HC5 := Aside0.mk H
  clear H
  go_enter Try.func3, Try.ntmps3
  go_upto_region 2 with (first | (go_at_call 10; (with_reducible refine (colloquylaw02_awake.calls k  t122 _ A4.out).mono ?_); rintro e w6 ⟨rfl, hb⟩; have n0_ := Aside0.mk (below_step (by repeat (first | (with_reducible first | exact HB.out | apply below_alloc | apply pw_below_drewN | apply below_drew1) | exact HB.out)) hb); clear HB; have HB := n0_; clear n0_; (try clear hb); (try clear hb2); (try clear hk); (try clear hi)))
  repeat (go_quiet (first | (go_at_call 10; (with_reducible refine (colloquylaw02_awake.calls k  t122 _ A4.out).mono ?_); rintro e w6 ⟨rfl, hb⟩; have n0_ := Aside0.mk (below_step (by repeat (first | (with_reducible first | exact HB.out | apply below_alloc | apply pw_below_drewN | apply below_drew1) | exact HB.out)) hb); clear HB; have HB := n0_; clear n0_; (try clear hb); (try clear hb2); (try clear hk); (try clear hi))); go_upto_region 2 with (first | (go_at_call 10; (with_reducible refine (colloquylaw02_awake.calls k  t122 _ A4.out).mono ?_); rintro e w6 ⟨rfl, hb⟩; have n0_ := Aside0.mk (below_step (by repeat (first | (with_reducible first | exact HB.out | apply below_alloc | apply pw_below_drewN | apply below_drew1) | exact HB.out)) hb); clear HB; have HB := n0_; clear n0_; (try clear hb); (try clear hb2); (try clear hk); (try clear hi))))
  (try simp only [Act.put, List.setIfInBounds_toArray, List.set_cons_zero, List.set_cons_succ])
  go_cut [27] (fun v27 wc => ∃ (kq : Nat) (x27_4 : Bool), v27 = .bool x27_4 ∧ Aside0 (colloquylaw02_AdlerTurns.j0 kq l0 a1 a2 t122 x27_4 = some r) ∧ Aside0 (kq ≤ k) ∧ Aside0 (Below w.heap.size w wc))
  case first =>
    have H := HC5.out
    clear HC5
    by_cases c7 : t122 = true
    · subst c7
      have H1 : (if (l0.length : Int) > 6000 then (colloquylaw02_AdlerTurns.j0 k l0 a1 a2 true true) else (if a1 < 0 then (colloquylaw02_AdlerTurns.j0 k l0 a1 a2 true true) else (colloquylaw02_AdlerTurns.j0 k l0 a1 a2 true (decide (a1 ≥ (l0.length : Int)))))) = some r := by rw [if_pos rfl] at H; exact H
      clear H
      have H := H1
      clear H1
      by_cases c8 : (l0.length : Int) > 6000
      · rw [if_pos c8] at H
        have c8b0 : decide (6000 < (l0.length : Int)) = true := decide_eq_true c8
        have c8b1 : decide (6000 < l0.length) = true := decide_eq_true (by omega)
        clear c8
        (first | rw [c8b0] | (simp only [i64_w, i32_w]; rw [c8b0]) | skip)
        have H' := Aside0.mk H
        clear H
        go_wp2
        repeat (go_quiet (fail); try go_wp2)
        go_meet
        case rel => exact ⟨_, (true), (by first | rfl | (simp; done) | (simp [*]; done)), H', ⟨by first | omega | exact Nat.le_refl _⟩, ⟨by repeat (first | (with_reducible first | exact HB.out | apply below_alloc | apply pw_below_drewN | apply below_drew1) | exact HB.out)⟩⟩
      · rw [if_neg c8] at H
        have c8b0 : decide (6000 < (l0.length : Int)) = false := decide_eq_false c8
        have c8b1 : decide (6000 < l0.length) = false := decide_eq_false (by omega)
        clear c8
        (first | rw [c8b0] | (simp only [i64_w, i32_w]; rw [c8b0]) | skip)
        by_cases c9 : a1 < 0
        · rw [if_pos c9] at H
          have c9b0 : decide (a1 < 0) = true := decide_eq_true c9
          clear c9
          have H' := Aside0.mk H
          clear H
          go_wp2
          repeat (go_quiet (fail); try go_wp2)
          go_meet
          case rel => exact ⟨_, (true), (by first | rfl | (simp; done) | (simp [*]; done)), H', ⟨by first | omega | exact Nat.le_refl _⟩, ⟨by repeat (first | (with_reducible first | exact HB.out | apply below_alloc | apply pw_below_drewN | apply below_drew1) | exact HB.out)⟩⟩
        · rw [if_neg c9] at H
          have c9b0 : decide (a1 < 0) = false := decide_eq_false c9
          clear c9
          have H' := Aside0.mk H
          clear H
          go_wp2
          repeat (go_quiet (fail); try go_wp2)
          go_meet
          case rel => exact ⟨_, (decide (a1 ≥ (l0.length : Int))), (by first | rfl | (simp; done) | (simp [*]; done)), H', ⟨by first | omega | exact Nat.le_refl _⟩, ⟨by repeat (first | (with_reducible first | exact HB.out | apply below_alloc | apply pw_below_drewN | apply below_drew1) | exact HB.out)⟩⟩
    · replace c7 := Bool.eq_false_iff.mpr c7
      subst c7
      have H1 : (colloquylaw02_AdlerTurns.j0 k l0 a1 a2 false true) = some r := by rw [if_neg (show ¬ (false = true) by decide)] at H; exact H
      clear H
      have H := H1
      clear H1
      have H' := Aside0.mk H
      clear H
      go_wp2
      repeat (go_quiet (fail); try go_wp2)
      go_meet
      case rel => exact ⟨_, (true), (by first | rfl | (simp; done) | (simp [*]; done)), H', ⟨by first | omega | exact Nat.le_refl _⟩, ⟨by repeat (first | (with_reducible first | exact HB.out | apply below_alloc | apply pw_below_drewN | apply below_drew1) | exact HB.out)⟩⟩
  case rest =>
    clear HC5
    try clear p2
    try clear c3
    try clear c7
    try clear c8
    try clear c8b0
    try clear c8b1
    try clear c9
    try clear c9b0
    obtain ⟨kq, x27_4, rfl, HA, HJ4, HB⟩ := hcut
    cases kq with
    | zero => exact absurd HA.out (by simp [colloquylaw02_AdlerTurns.j0])
    | succ kj4 =>
      have H := HA.out
      clear HA
      simp only [colloquylaw02_AdlerTurns.j0] at H
      by_cases c10 : x27_4 = true
      · subst c10
        have H1 : (some t122) = some r := by rw [if_pos rfl] at H; exact H
        clear H
        have H := H1
        clear H1
        obtain rfl := Option.some.inj H
        go_wp2
        repeat (go_quiet (fail); try go_wp2)
        go_ret
        exact ⟨by first | rfl | (simp [errW_none, errW_some] <;> rfl) | (simp [*, errW_none, errW_some] <;> rfl), by repeat (first | (with_reducible first | exact HB.out | apply below_alloc | apply pw_below_drewN | apply below_drew1) | exact HB.out)⟩
      · replace c10 := Bool.eq_false_iff.mpr c10
        subst c10
        have H1 : (if ([] : List Int).length + l0.length < 140737488355328 then ((some (([] : List Int) ++ l0 : List Int)).bind fun y123 => (if 0 ≤ a1 then (if a1 < (y123.length : Int) then (if a1 < (l0.length : Int) then (if a2 = (rd l0 a1) then (colloquylaw02_AdlerTurns.j1 kj4 l0 a1 false) else ((adler_Sum.f kj4 (y123.set (a1 : Int).toNat a2)).bind fun t128 => ((adler_Sum.f kj4 l0).bind fun t129 => (colloquylaw02_AdlerTurns.j1 kj4 l0 a1 (t128 == t129))))) else (none)) else (none)) else (none))) else (none)) = some r := by rw [if_neg (show ¬ (false = true) by decide)] at H; exact H
        clear H
        have H := H1
        clear H1
        by_cases c11 : ([] : List Int).length + l0.length < 140737488355328
        · rw [if_pos c11] at H
          have LMc11 := Aside0.mk c11
          clear c11
          obtain ⟨y123, hy123⟩ : ∃ y_ : List Int, y_ = (([] : List Int) ++ l0) := ⟨_, rfl⟩
          replace H : (if 0 ≤ a1 then (if a1 < (y123.length : Int) then (if a1 < (l0.length : Int) then (if a2 = (rd l0 a1) then (colloquylaw02_AdlerTurns.j1 kj4 l0 a1 false) else ((adler_Sum.f kj4 (y123.set (a1 : Int).toNat a2)).bind fun t128 => ((adler_Sum.f kj4 l0).bind fun t129 => (colloquylaw02_AdlerTurns.j1 kj4 l0 a1 (t128 == t129))))) else (none)) else (none)) else (none)) = some r := by first | (rw [hy123]; with_reducible exact H) | (have H2_ := (Option.bind_some _ _).symm.trans H; rw [hy123]; with_reducible exact H2_) | (have H2_ := (Option.bind_some _ _).symm.trans H; with_reducible exact H2_) | with_reducible exact H | (rw [hy123]; exact H) | exact H
          have Ny123 := Aside0.mk hy123
          clear hy123
          by_cases c12 : 0 ≤ a1
          · rw [if_pos c12] at H
            have c12b0 : decide (0 ≤ a1) = true := decide_eq_true c12
            clear c12
            by_cases c13 : a1 < (y123.length : Int)
            · rw [if_pos c13] at H
              have c13b0 : decide (a1 < (y123.length : Int)) = true := decide_eq_true c13
              clear c13
              obtain ⟨y126, hy126⟩ : ∃ y_ : List Int, y_ = (y123.set (a1 : Int).toNat a2) := ⟨_, rfl⟩
              replace H : (if a1 < (l0.length : Int) then (if a2 = (rd l0 a1) then (colloquylaw02_AdlerTurns.j1 kj4 l0 a1 false) else ((adler_Sum.f kj4 y126).bind fun t128 => ((adler_Sum.f kj4 l0).bind fun t129 => (colloquylaw02_AdlerTurns.j1 kj4 l0 a1 (t128 == t129))))) else (none)) = some r := by first | (rw [hy126]; with_reducible exact H) | (have H2_ := (Option.bind_some _ _).symm.trans H; rw [hy126]; with_reducible exact H2_) | (have H2_ := (Option.bind_some _ _).symm.trans H; with_reducible exact H2_) | with_reducible exact H | (rw [hy126]; exact H) | exact H
              have Ny126 := Aside0.mk hy126
              clear hy126
              have HC15 := Aside0.mk H
              clear H
              go_upto_region 6 with (first | ((with_reducible refine gate_builtin (b := .append) (xs := #[.const (.slice none 0 0), .tmp 29]) rfl ?_); (try (refine gate_guard (by rfl) ?_; dsimp only)); at_builtin; refine Kd.R_append_rows (Kd.int .u8) (w0 := w) w.heap.size rfl (.const (.slice none 0 0)) (.tmp 29) 22 5 (.int .u8 0) 1 rfl Try.underlying22 info5 rfl (by decide) (by omega) (.slice none 0 0) ([] : List Int) l0 _ _ _ (fun _ => True) (fun _ => False) rfl rfl ?aO ?aR (fun _ _ h => h) (fun _ h => h.elim) ?aF ?aB ?aS ?aL ?_; (case aR => repeat (first | exact (Kd.C_below HR0.out HB.out) | (with_reducible refine Kd.C_alloc ?_ _) | (with_reducible refine Kd.C_drewN ?_ _) | (with_reducible refine Kd.C_drew ?_))); (case aB => exact (by repeat (first | (with_reducible first | exact HB.out | apply below_alloc | apply pw_below_drewN | apply below_drew1) | exact HB.out))); (case aF => exact (fun _ _ => trivial)); (case aO => exact ((Kd.R_nil _ _ _ _ (fun _ => True)))); (case aS => exact (below_size (by repeat (first | (with_reducible first | exact HB.out | apply below_alloc | apply pw_below_drewN | apply below_drew1) | exact HB.out)))); (case aL => have := LMc11.out; omega); intro v124 w16 ho hb hg hat; rw [← Ny123.out] at ho; have n0_ := Aside0.mk (hb); have n1_ := Aside0.mk (ho); clear HB; have HB := n0_; have HO125 := n1_; clear n0_ n1_; clear ho hb hg hat; have p14 : 0 ≤ (a1 : Int) := of_decide_eq_true (by first | (with_reducible assumption) | assumption); have q14 : (a1 : Int) < ((y123.length : Int) : Int) := of_decide_eq_true (by first | (with_reducible assumption) | assumption); obtain ⟨go14, co14, eo14, gb14, gl14, cl14, HG14⟩ := Kd.R_form HO125.out (by omega); (first | cases eo14 | (injection eo14 with ea_ en_ ec_; (first | subst ea_ | (injection ea_ with ea_; subst ea_)); subst ec_; clear en_)); have GB14 := Aside0.mk gb14; have GG14 := Aside0.mk HG14; clear gb14 gl14 HG14; obtain ⟨hx14_0, hf14_0⟩ := Kd.R_celln 0 HO125.out (a1 : Int) p14 q14; replace p14 := eq_true p14; replace q14 := eq_true q14; obtain ⟨hy17_, hz17_⟩ := Kd.R_celln 0 HO125.out (a1 : Int) (of_decide_eq_true (by first | (with_reducible assumption) | assumption)) (of_decide_eq_true (by first | (with_reducible assumption) | assumption)); have HP17 := Kd.R_putg HO125.out (a1 : Int) a2) | ((with_reducible refine gate_store (t := 5) (p := 34) rfl ?_); (try (rw [drewN_self w16]; generalize hq_ : World.drewN w16 _ = w16; have n0_ := Aside0.mk (Kd.R_at hq_ HO125.out); have n1_ := Aside0.mk (below_at hq_ HB.out); clear hq_ HO125 HB; have HO125 := n0_; have HB := n1_; clear n0_ n1_; (try (obtain ⟨hy17_, hz17_⟩ := Kd.R_celln 0 HO125.out (a1 : Int) (of_decide_eq_true (by first | (with_reducible assumption) | assumption)) (of_decide_eq_true (by first | (with_reducible assumption) | assumption)))); (try (have HP17 := Kd.R_putg HO125.out (a1 : Int) a2)))); refine store_event (t := 5) (p := 34) (v := ?vo_w18) (w1 := (w16.setCell ⟨go14, (a1 : Int).toNat, none⟩ (.int .u8 a2))) ?hg ?ho ?hn ?hr ?_; (case ho => rfl); (case hg => rfl); (case hn => rfl); (case hr => first | (go_simp; done) | (go_simp; rfl)); intro w18 hw; have hg : w16.grownBy w18 (some go14) := (by rw [hw]; exact HP17.2); have hp_ : Kd.R (Kd.int .u8) 5 w18 w.heap.size (fun _ => True) (.slice (some ⟨go14, 0, none⟩) y123.length co14) y126 := (by rw [hw, Ny126.out]; exact HP17.1); clear HP17; have n0_ := Aside0.mk (hp_); have n1_ := Aside0.mk ((by rw [hw]; exact below_set (HB.out) GB14.out : Below w.heap.size w w18)); clear HO125; clear HB; have HO125 := n0_; have HB := n1_; clear n0_ n1_; clear hg hw hp_))
              repeat (go_quiet (first | ((with_reducible refine gate_builtin (b := .append) (xs := #[.const (.slice none 0 0), .tmp 29]) rfl ?_); (try (refine gate_guard (by rfl) ?_; dsimp only)); at_builtin; refine Kd.R_append_rows (Kd.int .u8) (w0 := w) w.heap.size rfl (.const (.slice none 0 0)) (.tmp 29) 22 5 (.int .u8 0) 1 rfl Try.underlying22 info5 rfl (by decide) (by omega) (.slice none 0 0) ([] : List Int) l0 _ _ _ (fun _ => True) (fun _ => False) rfl rfl ?aO ?aR (fun _ _ h => h) (fun _ h => h.elim) ?aF ?aB ?aS ?aL ?_; (case aR => repeat (first | exact (Kd.C_below HR0.out HB.out) | (with_reducible refine Kd.C_alloc ?_ _) | (with_reducible refine Kd.C_drewN ?_ _) | (with_reducible refine Kd.C_drew ?_))); (case aB => exact (by repeat (first | (with_reducible first | exact HB.out | apply below_alloc | apply pw_below_drewN | apply below_drew1) | exact HB.out))); (case aF => exact (fun _ _ => trivial)); (case aO => exact ((Kd.R_nil _ _ _ _ (fun _ => True)))); (case aS => exact (below_size (by repeat (first | (with_reducible first | exact HB.out | apply below_alloc | apply pw_below_drewN | apply below_drew1) | exact HB.out)))); (case aL => have := LMc11.out; omega); intro v124 w16 ho hb hg hat; rw [← Ny123.out] at ho; have n0_ := Aside0.mk (hb); have n1_ := Aside0.mk (ho); clear HB; have HB := n0_; have HO125 := n1_; clear n0_ n1_; clear ho hb hg hat; have p14 : 0 ≤ (a1 : Int) := of_decide_eq_true (by first | (with_reducible assumption) | assumption); have q14 : (a1 : Int) < ((y123.length : Int) : Int) := of_decide_eq_true (by first | (with_reducible assumption) | assumption); obtain ⟨go14, co14, eo14, gb14, gl14, cl14, HG14⟩ := Kd.R_form HO125.out (by omega); (first | cases eo14 | (injection eo14 with ea_ en_ ec_; (first | subst ea_ | (injection ea_ with ea_; subst ea_)); subst ec_; clear en_)); have GB14 := Aside0.mk gb14; have GG14 := Aside0.mk HG14; clear gb14 gl14 HG14; obtain ⟨hx14_0, hf14_0⟩ := Kd.R_celln 0 HO125.out (a1 : Int) p14 q14; replace p14 := eq_true p14; replace q14 := eq_true q14; obtain ⟨hy17_, hz17_⟩ := Kd.R_celln 0 HO125.out (a1 : Int) (of_decide_eq_true (by first | (with_reducible assumption) | assumption)) (of_decide_eq_true (by first | (with_reducible assumption) | assumption)); have HP17 := Kd.R_putg HO125.out (a1 : Int) a2) | ((with_reducible refine gate_store (t := 5) (p := 34) rfl ?_); (try (rw [drewN_self w16]; generalize hq_ : World.drewN w16 _ = w16; have n0_ := Aside0.mk (Kd.R_at hq_ HO125.out); have n1_ := Aside0.mk (below_at hq_ HB.out); clear hq_ HO125 HB; have HO125 := n0_; have HB := n1_; clear n0_ n1_; (try (obtain ⟨hy17_, hz17_⟩ := Kd.R_celln 0 HO125.out (a1 : Int) (of_decide_eq_true (by first | (with_reducible assumption) | assumption)) (of_decide_eq_true (by first | (with_reducible assumption) | assumption)))); (try (have HP17 := Kd.R_putg HO125.out (a1 : Int) a2)))); refine store_event (t := 5) (p := 34) (v := ?vo_w18) (w1 := (w16.setCell ⟨go14, (a1 : Int).toNat, none⟩ (.int .u8 a2))) ?hg ?ho ?hn ?hr ?_; (case ho => rfl); (case hg => rfl); (case hn => rfl); (case hr => first | (go_simp; done) | (go_simp; rfl)); intro w18 hw; have hg : w16.grownBy w18 (some go14) := (by rw [hw]; exact HP17.2); have hp_ : Kd.R (Kd.int .u8) 5 w18 w.heap.size (fun _ => True) (.slice (some ⟨go14, 0, none⟩) y123.length co14) y126 := (by rw [hw, Ny126.out]; exact HP17.1); clear HP17; have n0_ := Aside0.mk (hp_); have n1_ := Aside0.mk ((by rw [hw]; exact below_set (HB.out) GB14.out : Below w.heap.size w w18)); clear HO125; clear HB; have HO125 := n0_; have HB := n1_; clear n0_ n1_; clear hg hw hp_)); go_upto_region 6 with (first | ((with_reducible refine gate_builtin (b := .append) (xs := #[.const (.slice none 0 0), .tmp 29]) rfl ?_); (try (refine gate_guard (by rfl) ?_; dsimp only)); at_builtin; refine Kd.R_append_rows (Kd.int .u8) (w0 := w) w.heap.size rfl (.const (.slice none 0 0)) (.tmp 29) 22 5 (.int .u8 0) 1 rfl Try.underlying22 info5 rfl (by decide) (by omega) (.slice none 0 0) ([] : List Int) l0 _ _ _ (fun _ => True) (fun _ => False) rfl rfl ?aO ?aR (fun _ _ h => h) (fun _ h => h.elim) ?aF ?aB ?aS ?aL ?_; (case aR => repeat (first | exact (Kd.C_below HR0.out HB.out) | (with_reducible refine Kd.C_alloc ?_ _) | (with_reducible refine Kd.C_drewN ?_ _) | (with_reducible refine Kd.C_drew ?_))); (case aB => exact (by repeat (first | (with_reducible first | exact HB.out | apply below_alloc | apply pw_below_drewN | apply below_drew1) | exact HB.out))); (case aF => exact (fun _ _ => trivial)); (case aO => exact ((Kd.R_nil _ _ _ _ (fun _ => True)))); (case aS => exact (below_size (by repeat (first | (with_reducible first | exact HB.out | apply below_alloc | apply pw_below_drewN | apply below_drew1) | exact HB.out)))); (case aL => have := LMc11.out; omega); intro v124 w16 ho hb hg hat; rw [← Ny123.out] at ho; have n0_ := Aside0.mk (hb); have n1_ := Aside0.mk (ho); clear HB; have HB := n0_; have HO125 := n1_; clear n0_ n1_; clear ho hb hg hat; have p14 : 0 ≤ (a1 : Int) := of_decide_eq_true (by first | (with_reducible assumption) | assumption); have q14 : (a1 : Int) < ((y123.length : Int) : Int) := of_decide_eq_true (by first | (with_reducible assumption) | assumption); obtain ⟨go14, co14, eo14, gb14, gl14, cl14, HG14⟩ := Kd.R_form HO125.out (by omega); (first | cases eo14 | (injection eo14 with ea_ en_ ec_; (first | subst ea_ | (injection ea_ with ea_; subst ea_)); subst ec_; clear en_)); have GB14 := Aside0.mk gb14; have GG14 := Aside0.mk HG14; clear gb14 gl14 HG14; obtain ⟨hx14_0, hf14_0⟩ := Kd.R_celln 0 HO125.out (a1 : Int) p14 q14; replace p14 := eq_true p14; replace q14 := eq_true q14; obtain ⟨hy17_, hz17_⟩ := Kd.R_celln 0 HO125.out (a1 : Int) (of_decide_eq_true (by first | (with_reducible assumption) | assumption)) (of_decide_eq_true (by first | (with_reducible assumption) | assumption)); have HP17 := Kd.R_putg HO125.out (a1 : Int) a2) | ((with_reducible refine gate_store (t := 5) (p := 34) rfl ?_); (try (rw [drewN_self w16]; generalize hq_ : World.drewN w16 _ = w16; have n0_ := Aside0.mk (Kd.R_at hq_ HO125.out); have n1_ := Aside0.mk (below_at hq_ HB.out); clear hq_ HO125 HB; have HO125 := n0_; have HB := n1_; clear n0_ n1_; (try (obtain ⟨hy17_, hz17_⟩ := Kd.R_celln 0 HO125.out (a1 : Int) (of_decide_eq_true (by first | (with_reducible assumption) | assumption)) (of_decide_eq_true (by first | (with_reducible assumption) | assumption)))); (try (have HP17 := Kd.R_putg HO125.out (a1 : Int) a2)))); refine store_event (t := 5) (p := 34) (v := ?vo_w18) (w1 := (w16.setCell ⟨go14, (a1 : Int).toNat, none⟩ (.int .u8 a2))) ?hg ?ho ?hn ?hr ?_; (case ho => rfl); (case hg => rfl); (case hn => rfl); (case hr => first | (go_simp; done) | (go_simp; rfl)); intro w18 hw; have hg : w16.grownBy w18 (some go14) := (by rw [hw]; exact HP17.2); have hp_ : Kd.R (Kd.int .u8) 5 w18 w.heap.size (fun _ => True) (.slice (some ⟨go14, 0, none⟩) y123.length co14) y126 := (by rw [hw, Ny126.out]; exact HP17.1); clear HP17; have n0_ := Aside0.mk (hp_); have n1_ := Aside0.mk ((by rw [hw]; exact below_set (HB.out) GB14.out : Below w.heap.size w w18)); clear HO125; clear HB; have HO125 := n0_; have HB := n1_; clear n0_ n1_; clear hg hw hp_)))
              (try simp only [Act.put, List.setIfInBounds_toArray, List.set_cons_zero, List.set_cons_succ])
              go_cut [47] (fun v47 wc => ∃ (kq : Nat) (x47_14 : Bool), v47 = .bool x47_14 ∧ Aside0 (colloquylaw02_AdlerTurns.j1 kq l0 a1 x47_14 = some r) ∧ Aside0 (kq ≤ kj4) ∧ Aside0 (Below w.heap.size w wc))
              case first =>
                have H := HC15.out
                clear HC15
                by_cases c19 : a1 < (l0.length : Int)
                · rw [if_pos c19] at H
                  have c19b0 : decide (a1 < (l0.length : Int)) = true := decide_eq_true c19
                  clear c19
                  (first | rw [c19b0] | (simp only [i64_w, i32_w]; rw [c19b0]) | skip)
                  by_cases c20 : a2 = (rd l0 a1)
                  · rw [if_pos c20] at H
                    have c20b0 : (a2 == (rd l0 a1)) = true := beq_iff_eq.mpr c20
                    have c20b1 : (a2 != (rd l0 a1)) = false := bne_eq_false_iff_eq.mpr c20
                    clear c20
                    have H' := Aside0.mk H
                    clear H
                    have p127 : 0 ≤ (a1 : Int) := of_decide_eq_true (by first | (with_reducible assumption) | assumption)
                    have q127 : a1 < (l0.length : Int) := of_decide_eq_true (by first | (with_reducible assumption) | assumption)
                    obtain ⟨ad127, e127, hx127_0⟩ := Kd.at_int HR0.out a1 p127 q127
                    cases e127
                    replace hx127_0 := (HB.out.cell (World.block_lt_of_cell? w _ hx127_0)).trans hx127_0
                    replace p127 := eq_true p127
                    replace q127 := eq_true q127
                    go_wp2
                    repeat (go_quiet (fail); try go_wp2)
                    go_meet
                    case rel => exact ⟨_, (false), (by first | rfl | (simp; done) | (simp [*]; done)), H', ⟨by have := HJ4.out; first | omega | exact Nat.le_refl _⟩, ⟨by repeat (first | (with_reducible first | exact HB.out | apply below_alloc | apply pw_below_drewN | apply below_drew1) | exact HB.out)⟩⟩
                  · rw [if_neg c20] at H
                    have c20b0 : (a2 == (rd l0 a1)) = false := beq_eq_false_iff_ne.mpr c20
                    have c20b1 : (a2 != (rd l0 a1)) = true := bne_iff_ne.mpr c20
                    replace H := Option.bind_eq_some_iff.mp H
                    obtain ⟨t128, A210, H⟩ := H
                    replace H : ((adler_Sum.f kj4 l0).bind fun t129 => (colloquylaw02_AdlerTurns.j1 kj4 l0 a1 (t128 == t129))) = some r := H
                    have A21 := Aside0.mk A210
                    clear A210
                    replace H := Option.bind_eq_some_iff.mp H
                    obtain ⟨t129, A220, H⟩ := H
                    replace H : (colloquylaw02_AdlerTurns.j1 kj4 l0 a1 (t128 == t129)) = some r := H
                    have A22 := Aside0.mk A220
                    clear A220
                    have H' := Aside0.mk H
                    clear H
                    have p127 : 0 ≤ (a1 : Int) := of_decide_eq_true (by first | (with_reducible assumption) | assumption)
                    have q127 : a1 < (l0.length : Int) := of_decide_eq_true (by first | (with_reducible assumption) | assumption)
                    obtain ⟨ad127, e127, hx127_0⟩ := Kd.at_int HR0.out a1 p127 q127
                    cases e127
                    replace hx127_0 := (HB.out.cell (World.block_lt_of_cell? w _ hx127_0)).trans hx127_0
                    replace p127 := eq_true p127
                    replace q127 := eq_true q127
                    go_wp2_with (first | (go_at_call 11; refine calls_of_args (args' := #[.slice (some ⟨go14, 0, none⟩) y126.length co14]) (by first | (rw [show y126.length = y123.length from (Kd.R_reads' HO125.out).1.symm] <;> rfl) | rfl) ?_; (with_reducible refine (adler_Sum.calls kj4 _ _ y126 t128 _ ?side1 ?side2 A21.out).mono ?_); (case side1 => repeat (first | exact (Kd.R_reads' HO125.out).2.2 | (with_reducible refine Kd.C_alloc ?_ _) | (with_reducible refine Kd.C_drewN ?_ _) | (with_reducible refine Kd.C_drew ?_))); (case side2 => rw [show y126.length = y123.length from (Kd.R_reads' HO125.out).1.symm]; exact (Kd.R_reads' HO125.out).2.1); rintro e w23 ⟨rfl, hb⟩; have n0_ := Aside0.mk (Kd.R_below (by (with_reducible repeat (first | apply Kd.R_alloc | apply Kd.R_drewN | apply Kd.R_drew)); exact HO125.out) hb); have n1_ := Aside0.mk (below_step (by repeat (first | (with_reducible first | exact HB.out | apply below_alloc | apply pw_below_drewN | apply below_drew1) | exact HB.out)) hb); clear HO125; clear HB; have HO125 := n0_; have HB := n1_; clear n0_ n1_; (try clear hb); (try clear hb2); (try clear hk); (try clear hi)) | (go_at_call 11; (with_reducible refine (adler_Sum.calls kj4 _ _ l0 t129 _ ?side1 ?side2 A22.out).mono ?_); (case side1 => repeat (first | exact (Kd.C_below HR0.out HB.out) | (with_reducible refine Kd.C_alloc ?_ _) | (with_reducible refine Kd.C_drewN ?_ _) | (with_reducible refine Kd.C_drew ?_))); (case side2 => exact HC0.out); rintro e w24 ⟨rfl, hb⟩; have n0_ := Aside0.mk (Kd.R_below (by (with_reducible repeat (first | apply Kd.R_alloc | apply Kd.R_drewN | apply Kd.R_drew)); exact HO125.out) hb); have n1_ := Aside0.mk (below_step (by repeat (first | (with_reducible first | exact HB.out | apply below_alloc | apply pw_below_drewN | apply below_drew1) | exact HB.out)) hb); clear HO125; clear HB; have HO125 := n0_; have HB := n1_; clear n0_ n1_; (try clear hb); (try clear hb2); (try clear hk); (try clear hi)))
                    repeat (go_quiet (first | (go_at_call 11; refine calls_of_args (args' := #[.slice (some ⟨go14, 0, none⟩) y126.length co14]) (by first | (rw [show y126.length = y123.length from (Kd.R_reads' HO125.out).1.symm] <;> rfl) | rfl) ?_; (with_reducible refine (adler_Sum.calls kj4 _ _ y126 t128 _ ?side1 ?side2 A21.out).mono ?_); (case side1 => repeat (first | exact (Kd.R_reads' HO125.out).2.2 | (with_reducible refine Kd.C_alloc ?_ _) | (with_reducible refine Kd.C_drewN ?_ _) | (with_reducible refine Kd.C_drew ?_))); (case side2 => rw [show y126.length = y123.length from (Kd.R_reads' HO125.out).1.symm]; exact (Kd.R_reads' HO125.out).2.1); rintro e w23 ⟨rfl, hb⟩; have n0_ := Aside0.mk (Kd.R_below (by (with_reducible repeat (first | apply Kd.R_alloc | apply Kd.R_drewN | apply Kd.R_drew)); exact HO125.out) hb); have n1_ := Aside0.mk (below_step (by repeat (first | (with_reducible first | exact HB.out | apply below_alloc | apply pw_below_drewN | apply below_drew1) | exact HB.out)) hb); clear HO125; clear HB; have HO125 := n0_; have HB := n1_; clear n0_ n1_; (try clear hb); (try clear hb2); (try clear hk); (try clear hi)) | (go_at_call 11; (with_reducible refine (adler_Sum.calls kj4 _ _ l0 t129 _ ?side1 ?side2 A22.out).mono ?_); (case side1 => repeat (first | exact (Kd.C_below HR0.out HB.out) | (with_reducible refine Kd.C_alloc ?_ _) | (with_reducible refine Kd.C_drewN ?_ _) | (with_reducible refine Kd.C_drew ?_))); (case side2 => exact HC0.out); rintro e w24 ⟨rfl, hb⟩; have n0_ := Aside0.mk (Kd.R_below (by (with_reducible repeat (first | apply Kd.R_alloc | apply Kd.R_drewN | apply Kd.R_drew)); exact HO125.out) hb); have n1_ := Aside0.mk (below_step (by repeat (first | (with_reducible first | exact HB.out | apply below_alloc | apply pw_below_drewN | apply below_drew1) | exact HB.out)) hb); clear HO125; clear HB; have HO125 := n0_; have HB := n1_; clear n0_ n1_; (try clear hb); (try clear hb2); (try clear hk); (try clear hi))); try go_wp2_with (first | (go_at_call 11; refine calls_of_args (args' := #[.slice (some ⟨go14, 0, none⟩) y126.length co14]) (by first | (rw [show y126.length = y123.length from (Kd.R_reads' HO125.out).1.symm] <;> rfl) | rfl) ?_; (with_reducible refine (adler_Sum.calls kj4 _ _ y126 t128 _ ?side1 ?side2 A21.out).mono ?_); (case side1 => repeat (first | exact (Kd.R_reads' HO125.out).2.2 | (with_reducible refine Kd.C_alloc ?_ _) | (with_reducible refine Kd.C_drewN ?_ _) | (with_reducible refine Kd.C_drew ?_))); (case side2 => rw [show y126.length = y123.length from (Kd.R_reads' HO125.out).1.symm]; exact (Kd.R_reads' HO125.out).2.1); rintro e w23 ⟨rfl, hb⟩; have n0_ := Aside0.mk (Kd.R_below (by (with_reducible repeat (first | apply Kd.R_alloc | apply Kd.R_drewN | apply Kd.R_drew)); exact HO125.out) hb); have n1_ := Aside0.mk (below_step (by repeat (first | (with_reducible first | exact HB.out | apply below_alloc | apply pw_below_drewN | apply below_drew1) | exact HB.out)) hb); clear HO125; clear HB; have HO125 := n0_; have HB := n1_; clear n0_ n1_; (try clear hb); (try clear hb2); (try clear hk); (try clear hi)) | (go_at_call 11; (with_reducible refine (adler_Sum.calls kj4 _ _ l0 t129 _ ?side1 ?side2 A22.out).mono ?_); (case side1 => repeat (first | exact (Kd.C_below HR0.out HB.out) | (with_reducible refine Kd.C_alloc ?_ _) | (with_reducible refine Kd.C_drewN ?_ _) | (with_reducible refine Kd.C_drew ?_))); (case side2 => exact HC0.out); rintro e w24 ⟨rfl, hb⟩; have n0_ := Aside0.mk (Kd.R_below (by (with_reducible repeat (first | apply Kd.R_alloc | apply Kd.R_drewN | apply Kd.R_drew)); exact HO125.out) hb); have n1_ := Aside0.mk (below_step (by repeat (first | (with_reducible first | exact HB.out | apply below_alloc | apply pw_below_drewN | apply below_drew1) | exact HB.out)) hb); clear HO125; clear HB; have HO125 := n0_; have HB := n1_; clear n0_ n1_; (try clear hb); (try clear hb2); (try clear hk); (try clear hi))))
                    go_meet
                    case rel => exact ⟨_, ((t128 == t129)), (by first | rfl | (simp; done) | (simp [*]; done)), H', ⟨by have := HJ4.out; first | omega | exact Nat.le_refl _⟩, ⟨by repeat (first | (with_reducible first | exact HB.out | apply below_alloc | apply pw_below_drewN | apply below_drew1) | exact HB.out)⟩⟩
                · rw [if_neg c19] at H
                  exact absurd H (by simp)
              case rest =>
                clear HC15
                try clear c1
                try clear p1
                try clear q1
                try clear hx1
                try clear c2
                try clear p2
                try clear c3
                try clear c7
                try clear c8
                try clear c8b0
                try clear c8b1
                try clear c9
                try clear c9b0
                try clear c10
                try clear c11
                try clear c12
                try clear c12b0
                try clear p12
                try clear q12
                try clear hx12
                try clear c13
                try clear c13b0
                try clear p14
                try clear q14
                try clear hx14
                try clear hf14
                try clear c19
                try clear c19b0
                try clear c20
                try clear c20b0
                try clear c20b1
                try clear hx127_0
                try clear hx14_0
                try clear p127
                try clear p14
                try clear p2
                try clear q127
                try clear q14
                obtain ⟨kq, x47_14, rfl, HA, HJ14, HB⟩ := hcut
                cases kq with
                | zero => exact absurd HA.out (by simp [colloquylaw02_AdlerTurns.j1])
                | succ kj14 =>
                  have H := HA.out
                  clear HA
                  simp only [colloquylaw02_AdlerTurns.j1] at H
                  by_cases c25 : x47_14 = true
                  · subst c25
                    have H1 : (some false) = some r := by rw [if_pos rfl] at H; exact H
                    clear H
                    have H := H1
                    clear H1
                    obtain rfl := Option.some.inj H
                    go_wp2
                    repeat (go_quiet (fail); try go_wp2)
                    go_ret
                    exact ⟨by first | rfl | (simp [errW_none, errW_some] <;> rfl) | (simp [*, errW_none, errW_some] <;> rfl), by repeat (first | (with_reducible first | exact HB.out | apply below_alloc | apply pw_below_drewN | apply below_drew1) | exact HB.out)⟩
                  · replace c25 := Bool.eq_false_iff.mpr c25
                    subst c25
                    have H1 : (if a1 = 0 then (colloquylaw02_AdlerTurns.j2 kj14 l0 a1 true) else (if 0 ≤ a1 then (if a1 < (l0.length : Int) then (if 0 ≤ (wrap64 (a1 - 1)) then (if (wrap64 (a1 - 1)) < (l0.length : Int) then (colloquylaw02_AdlerTurns.j2 kj14 l0 a1 ((rd l0 a1) == (rd l0 (wrap64 (a1 - 1))))) else (none)) else (none)) else (none)) else (none))) = some r := by rw [if_neg (show ¬ (false = true) by decide)] at H; exact H
                    clear H
                    have H := H1
                    clear H1
                    have HC26 := Aside0.mk H
                    clear H
                    go_upto_region 8 with (fail)
                    repeat (go_quiet (fail); go_upto_region 8 with (fail))
                    go_cut [61] (fun v61 wc => ∃ (kq : Nat) (x61_25 : Bool), v61 = .bool x61_25 ∧ Aside0 (colloquylaw02_AdlerTurns.j2 kq l0 a1 x61_25 = some r) ∧ Aside0 (kq ≤ kj14) ∧ Aside0 (Below w.heap.size w wc))
                    case first =>
                      have H := HC26.out
                      clear HC26
                      by_cases c27 : a1 = 0
                      · rw [if_pos c27] at H
                        have c27b0 : (a1 == 0) = true := beq_iff_eq.mpr c27
                        have c27b1 : (a1 != 0) = false := bne_eq_false_iff_eq.mpr c27
                        clear c27
                        (first | rw [c27b0] | (simp only [i64_w, i32_w]; rw [c27b0]) | skip)
                        have H' := Aside0.mk H
                        clear H
                        go_wp2
                        repeat (go_quiet (fail); try go_wp2)
                        go_meet
                        case rel => exact ⟨_, (true), (by first | rfl | (simp; done) | (simp [*]; done)), H', ⟨by have := HJ4.out; have := HJ14.out; first | omega | exact Nat.le_refl _⟩, ⟨by repeat (first | (with_reducible first | exact HB.out | apply below_alloc | apply pw_below_drewN | apply below_drew1) | exact HB.out)⟩⟩
                      · rw [if_neg c27] at H
                        have c27b0 : (a1 == 0) = false := beq_eq_false_iff_ne.mpr c27
                        have c27b1 : (a1 != 0) = true := bne_iff_ne.mpr c27
                        (first | rw [c27b0] | (simp only [i64_w, i32_w]; rw [c27b0]) | skip)
                        by_cases c28 : 0 ≤ a1
                        · rw [if_pos c28] at H
                          have c28b0 : decide (0 ≤ a1) = true := decide_eq_true c28
                          clear c28
                          by_cases c29 : a1 < (l0.length : Int)
                          · rw [if_pos c29] at H
                            have c29b0 : decide (a1 < (l0.length : Int)) = true := decide_eq_true c29
                            clear c29
                            obtain ⟨ji30, hji30⟩ : ∃ j_ : Int, (wrap64 (a1 - 1)) = j_ := ⟨_, rfl⟩
                            replace H : (if 0 ≤ (ji30) then (if (ji30) < (l0.length : Int) then (colloquylaw02_AdlerTurns.j2 kj14 l0 a1 ((rd l0 a1) == (rd l0 (ji30)))) else (none)) else (none)) = some r := by first | (rw [hji30] at H; exact H) | (simp only [hji30] at H ⊢; exact H)
                            have hji30w : (IntKind.i64.wrap (a1 - 1)) = ji30 := (i64_w _).trans hji30
                            by_cases c31 : 0 ≤ (ji30)
                            · rw [if_pos c31] at H
                              have c31b0 : decide (0 ≤ (ji30)) = true := decide_eq_true c31
                              clear c31
                              by_cases c32 : (ji30) < (l0.length : Int)
                              · rw [if_pos c32] at H
                                have c32b0 : decide ((ji30) < (l0.length : Int)) = true := decide_eq_true c32
                                clear c32
                                have H' := Aside0.mk H
                                clear H
                                have p130 : 0 ≤ (a1 : Int) := of_decide_eq_true (by first | (with_reducible assumption) | assumption)
                                have q130 : a1 < (l0.length : Int) := of_decide_eq_true (by first | (with_reducible assumption) | assumption)
                                obtain ⟨ad130, e130, hx130_0⟩ := Kd.at_int HR0.out a1 p130 q130
                                cases e130
                                replace hx130_0 := (HB.out.cell (World.block_lt_of_cell? w _ hx130_0)).trans hx130_0
                                replace p130 := eq_true p130
                                replace q130 := eq_true q130
                                have p131 : 0 ≤ ((ji30) : Int) := of_decide_eq_true (by first | (with_reducible assumption) | assumption)
                                have q131 : (ji30) < (l0.length : Int) := of_decide_eq_true (by first | (with_reducible assumption) | assumption)
                                obtain ⟨ad131, e131, hx131_0⟩ := Kd.at_int HR0.out (ji30) p131 q131
                                obtain rfl : ad130 = ad131 := (by injection e131)
                                replace hx131_0 := (HB.out.cell (World.block_lt_of_cell? w _ hx131_0)).trans hx131_0
                                replace p131 := eq_true p131
                                replace q131 := eq_true q131
                                go_wp2
                                repeat (go_quiet (fail); try go_wp2)
                                go_meet
                                case rel => exact ⟨_, (((rd l0 a1) == (rd l0 (ji30)))), (by first | rfl | (simp; done) | (simp only [← hji30] <;> (first | rfl | simp)) | (simp [*]; done)), H', ⟨by have := HJ4.out; have := HJ14.out; first | omega | exact Nat.le_refl _⟩, ⟨by repeat (first | (with_reducible first | exact HB.out | apply below_alloc | apply pw_below_drewN | apply below_drew1) | exact HB.out)⟩⟩
                              · rw [if_neg c32] at H
                                exact absurd H (by simp)
                            · rw [if_neg c31] at H
                              exact absurd H (by simp)
                          · rw [if_neg c29] at H
                            exact absurd H (by simp)
                        · rw [if_neg c28] at H
                          exact absurd H (by simp)
                    case rest =>
                      clear HC26
                      try clear c1
                      try clear p1
                      try clear q1
                      try clear hx1
                      try clear c2
                      try clear p2
                      try clear c3
                      try clear p6
                      try clear c7
                      try clear c8
                      try clear c8b0
                      try clear c8b1
                      try clear c9
                      try clear c9b0
                      try clear c10
                      try clear c11
                      try clear c12
                      try clear c12b0
                      try clear p12
                      try clear q12
                      try clear hx12
                      try clear c13
                      try clear c13b0
                      try clear p13
                      try clear q13
                      try clear hx13
                      try clear p14
                      try clear q14
                      try clear hx14
                      try clear hf14
                      try clear c19
                      try clear c19b0
                      try clear c20
                      try clear c20b0
                      try clear c20b1
                      try clear c25
                      try clear c27
                      try clear c27b0
                      try clear c27b1
                      try clear c28
                      try clear c28b0
                      try clear c29
                      try clear c29b0
                      try clear c31
                      try clear c31b0
                      try clear c32
                      try clear c32b0
                      try clear hx127_0
                      try clear hx130_0
                      try clear hx131_0
                      try clear hx14_0
                      try clear p1
                      try clear p12
                      try clear p127
                      try clear p130
                      try clear p131
                      try clear p14
                      try clear p2
                      try clear q1
                      try clear q12
                      try clear q127
                      try clear q130
                      try clear q131
                      try clear q14
                      obtain ⟨kq, x61_25, rfl, HA, HJ25, HB⟩ := hcut
                      cases kq with
                      | zero => exact absurd HA.out (by simp [colloquylaw02_AdlerTurns.j2])
                      | succ kj25 =>
                        have H := HA.out
                        clear HA
                        simp only [colloquylaw02_AdlerTurns.j2] at H
                        by_cases c33 : x61_25 = true
                        · subst c33
                          have H1 : (some true) = some r := by rw [if_pos rfl] at H; exact H
                          clear H
                          have H := H1
                          clear H1
                          obtain rfl := Option.some.inj H
                          go_wp2
                          repeat (go_quiet (fail); try go_wp2)
                          go_ret
                          exact ⟨by first | rfl | (simp [errW_none, errW_some] <;> rfl) | (simp [*, errW_none, errW_some] <;> rfl), by repeat (first | (with_reducible first | exact HB.out | apply below_alloc | apply pw_below_drewN | apply below_drew1) | exact HB.out)⟩
                        · replace c33 := Bool.eq_false_iff.mpr c33
                          subst c33
                          have H1 : (if ([] : List Int).length + l0.length < 140737488355328 then ((some (([] : List Int) ++ l0 : List Int)).bind fun y132 => (if 0 ≤ (wrap64 (a1 - 1)) then (if (wrap64 (a1 - 1)) < (l0.length : Int) then (if 0 ≤ a1 then (if a1 < (y132.length : Int) then (if a1 < (l0.length : Int) then (if (wrap64 (a1 - 1)) < (y132.length : Int) then ((adler_Sum.f kj25 ((y132.set (a1 : Int).toNat (rd l0 (wrap64 (a1 - 1)))).set ((wrap64 (a1 - 1)) : Int).toNat (rd l0 a1))).bind fun t139 => ((adler_Sum.f kj25 l0).bind fun t140 => (some (t139 != t140)))) else (none)) else (none)) else (none)) else (none)) else (none)) else (none))) else (none)) = some r := by rw [if_neg (show ¬ (false = true) by decide)] at H; exact H
                          clear H
                          have H := H1
                          clear H1
                          by_cases c34 : ([] : List Int).length + l0.length < 140737488355328
                          · rw [if_pos c34] at H
                            have LMc34 := Aside0.mk c34
                            clear c34
                            obtain ⟨y132, hy132⟩ : ∃ y_ : List Int, y_ = (([] : List Int) ++ l0) := ⟨_, rfl⟩
                            replace H : (if 0 ≤ (wrap64 (a1 - 1)) then (if (wrap64 (a1 - 1)) < (l0.length : Int) then (if 0 ≤ a1 then (if a1 < (y132.length : Int) then (if a1 < (l0.length : Int) then (if (wrap64 (a1 - 1)) < (y132.length : Int) then ((adler_Sum.f kj25 ((y132.set (a1 : Int).toNat (rd l0 (wrap64 (a1 - 1)))).set ((wrap64 (a1 - 1)) : Int).toNat (rd l0 a1))).bind fun t139 => ((adler_Sum.f kj25 l0).bind fun t140 => (some (t139 != t140)))) else (none)) else (none)) else (none)) else (none)) else (none)) else (none)) = some r := by first | (rw [hy132]; with_reducible exact H) | (have H2_ := (Option.bind_some _ _).symm.trans H; rw [hy132]; with_reducible exact H2_) | (have H2_ := (Option.bind_some _ _).symm.trans H; with_reducible exact H2_) | with_reducible exact H | (rw [hy132]; exact H) | exact H
                            have Ny132 := Aside0.mk hy132
                            clear hy132
                            obtain ⟨ji35, hji35⟩ : ∃ j_ : Int, (wrap64 (a1 - 1)) = j_ := ⟨_, rfl⟩
                            replace H : (if 0 ≤ (ji35) then (if (ji35) < (l0.length : Int) then (if 0 ≤ a1 then (if a1 < (y132.length : Int) then (if a1 < (l0.length : Int) then (if (ji35) < (y132.length : Int) then ((adler_Sum.f kj25 ((y132.set (a1 : Int).toNat (rd l0 (ji35))).set ((ji35) : Int).toNat (rd l0 a1))).bind fun t139 => ((adler_Sum.f kj25 l0).bind fun t140 => (some (t139 != t140)))) else (none)) else (none)) else (none)) else (none)) else (none)) else (none)) = some r := by first | (rw [hji35] at H; exact H) | (simp only [hji35] at H ⊢; exact H)
                            have hji35w : (IntKind.i64.wrap (a1 - 1)) = ji35 := (i64_w _).trans hji35
                            by_cases c36 : 0 ≤ (ji35)
                            · rw [if_pos c36] at H
                              have c36b0 : decide (0 ≤ (ji35)) = true := decide_eq_true c36
                              clear c36
                              by_cases c37 : (ji35) < (l0.length : Int)
                              · rw [if_pos c37] at H
                                have c37b0 : decide ((ji35) < (l0.length : Int)) = true := decide_eq_true c37
                                clear c37
                                by_cases c38 : 0 ≤ a1
                                · rw [if_pos c38] at H
                                  have c38b0 : decide (0 ≤ a1) = true := decide_eq_true c38
                                  clear c38
                                  by_cases c39 : a1 < (y132.length : Int)
                                  · rw [if_pos c39] at H
                                    have c39b0 : decide (a1 < (y132.length : Int)) = true := decide_eq_true c39
                                    clear c39
                                    obtain ⟨y136, hy136⟩ : ∃ y_ : List Int, y_ = (y132.set (a1 : Int).toNat (rd l0 (ji35))) := ⟨_, rfl⟩
                                    replace H : (if a1 < (l0.length : Int) then (if (ji35) < (y132.length : Int) then ((adler_Sum.f kj25 (y136.set ((ji35) : Int).toNat (rd l0 a1))).bind fun t139 => ((adler_Sum.f kj25 l0).bind fun t140 => (some (t139 != t140)))) else (none)) else (none)) = some r := by first | (rw [hy136]; with_reducible exact H) | (have H2_ := (Option.bind_some _ _).symm.trans H; rw [hy136]; with_reducible exact H2_) | (have H2_ := (Option.bind_some _ _).symm.trans H; with_reducible exact H2_) | with_reducible exact H | (rw [hy136]; exact H) | exact H
                                    have Ny136 := Aside0.mk hy136
                                    clear hy136
                                    by_cases c41 : a1 < (l0.length : Int)
                                    · rw [if_pos c41] at H
                                      have c41b0 : decide (a1 < (l0.length : Int)) = true := decide_eq_true c41
                                      clear c41
                                      by_cases c42 : (ji35) < (y132.length : Int)
                                      · rw [if_pos c42] at H
                                        have c42b0 : decide ((ji35) < (y132.length : Int)) = true := decide_eq_true c42
                                        clear c42
                                        obtain ⟨y138, hy138⟩ : ∃ y_ : List Int, y_ = (y136.set ((ji35) : Int).toNat (rd l0 a1)) := ⟨_, rfl⟩
                                        replace H : ((adler_Sum.f kj25 y138).bind fun t139 => ((adler_Sum.f kj25 l0).bind fun t140 => (some (t139 != t140)))) = some r := by first | (rw [hy138]; with_reducible exact H) | (have H2_ := (Option.bind_some _ _).symm.trans H; rw [hy138]; with_reducible exact H2_) | (have H2_ := (Option.bind_some _ _).symm.trans H; with_reducible exact H2_) | with_reducible exact H | (rw [hy138]; exact H) | exact H
                                        have Ny138 := Aside0.mk hy138
                                        clear hy138
                                        replace H := Option.bind_eq_some_iff.mp H
                                        obtain ⟨t139, A440, H⟩ := H
                                        replace H : ((adler_Sum.f kj25 l0).bind fun t140 => (some (t139 != t140))) = some r := H
                                        have A44 := Aside0.mk A440
                                        clear A440
                                        replace H := Option.bind_eq_some_iff.mp H
                                        obtain ⟨t140, A450, H⟩ := H
                                        replace H : (some (t139 != t140)) = some r := H
                                        have A45 := Aside0.mk A450
                                        clear A450
                                        obtain rfl := Option.some.inj H
                                        go_wp2_with (first | ((with_reducible refine gate_builtin (b := .append) (xs := #[.const (.slice none 0 0), .tmp 62]) rfl ?_); (try (refine gate_guard (by rfl) ?_; dsimp only)); at_builtin; refine Kd.R_append_rows (Kd.int .u8) (w0 := w) w.heap.size rfl (.const (.slice none 0 0)) (.tmp 62) 22 5 (.int .u8 0) 1 rfl Try.underlying22 info5 rfl (by decide) (by omega) (.slice none 0 0) ([] : List Int) l0 _ _ _ (fun _ => True) (fun _ => False) rfl rfl ?aO ?aR (fun _ _ h => h) (fun _ h => h.elim) ?aF ?aB ?aS ?aL ?_; (case aR => repeat (first | exact (Kd.C_below HR0.out HB.out) | (with_reducible refine Kd.C_alloc ?_ _) | (with_reducible refine Kd.C_drewN ?_ _) | (with_reducible refine Kd.C_drew ?_))); (case aB => exact (by repeat (first | (with_reducible first | exact HB.out | apply below_alloc | apply pw_below_drewN | apply below_drew1) | exact HB.out))); (case aF => exact (fun _ _ => trivial)); (case aO => exact ((Kd.R_nil _ _ _ _ (fun _ => True)))); (case aS => exact (below_size (by repeat (first | (with_reducible first | exact HB.out | apply below_alloc | apply pw_below_drewN | apply below_drew1) | exact HB.out)))); (case aL => have := LMc34.out; omega); intro v133 w46 ho hb hg hat; rw [← Ny132.out] at ho; have n0_ := Aside0.mk (hb); have n1_ := Aside0.mk (ho); clear HB; have HB := n0_; have HO134 := n1_; clear n0_ n1_; clear ho hb hg hat; have p135 : 0 ≤ ((ji35) : Int) := of_decide_eq_true (by first | (with_reducible assumption) | assumption); have q135 : (ji35) < (l0.length : Int) := of_decide_eq_true (by first | (with_reducible assumption) | assumption); obtain ⟨ad135, e135, hx135_0⟩ := Kd.at_int HR0.out (ji35) p135 q135; cases e135; replace hx135_0 := (HB.out.cell (World.block_lt_of_cell? w _ hx135_0)).trans hx135_0; replace p135 := eq_true p135; replace q135 := eq_true q135; have p40 : 0 ≤ (a1 : Int) := of_decide_eq_true (by first | (with_reducible assumption) | assumption); have q40 : (a1 : Int) < ((y132.length : Int) : Int) := of_decide_eq_true (by first | (with_reducible assumption) | assumption); obtain ⟨go40, co40, eo40, gb40, gl40, cl40, HG40⟩ := Kd.R_form HO134.out (by omega); (first | cases eo40 | (injection eo40 with ea_ en_ ec_; (first | subst ea_ | (injection ea_ with ea_; subst ea_)); subst ec_; clear en_)); have GB40 := Aside0.mk gb40; have GG40 := Aside0.mk HG40; clear gb40 gl40 HG40; obtain ⟨hx40_0, hf40_0⟩ := Kd.R_celln 0 HO134.out (a1 : Int) p40 q40; replace p40 := eq_true p40; replace q40 := eq_true q40; obtain ⟨hy47_, hz47_⟩ := Kd.R_celln 0 HO134.out (a1 : Int) (of_decide_eq_true (by first | (with_reducible assumption) | assumption)) (of_decide_eq_true (by first | (with_reducible assumption) | assumption)); have HP47 := Kd.R_putg HO134.out (a1 : Int) (rd l0 (ji35))) | ((with_reducible refine gate_store (t := 5) (p := 71) rfl ?_); (try (rw [drewN_self w46]; generalize hq_ : World.drewN w46 _ = w46; have n0_ := Aside0.mk (Kd.R_at hq_ HO134.out); have n1_ := Aside0.mk (below_at hq_ HB.out); clear hq_ HO134 HB; have HO134 := n0_; have HB := n1_; clear n0_ n1_; (try (obtain ⟨hy47_, hz47_⟩ := Kd.R_celln 0 HO134.out (a1 : Int) (of_decide_eq_true (by first | (with_reducible assumption) | assumption)) (of_decide_eq_true (by first | (with_reducible assumption) | assumption)))); (try (have HP47 := Kd.R_putg HO134.out (a1 : Int) (rd l0 (ji35)))))); refine store_event (t := 5) (p := 71) (v := ?vo_w48) (w1 := (w46.setCell ⟨go40, (a1 : Int).toNat, none⟩ (.int .u8 (rd l0 (ji35))))) ?hg ?ho ?hn ?hr ?_; (case ho => rfl); (case hg => rfl); (case hn => rfl); (case hr => first | (go_simp; done) | (go_simp; rfl)); intro w48 hw; have hg : w46.grownBy w48 (some go40) := (by rw [hw]; exact HP47.2); have hp_ : Kd.R (Kd.int .u8) 5 w48 w.heap.size (fun _ => True) (.slice (some ⟨go40, 0, none⟩) y132.length co40) y136 := (by rw [hw, Ny136.out]; exact HP47.1); clear HP47; have n0_ := Aside0.mk (hp_); have n1_ := Aside0.mk ((by rw [hw]; exact below_set (HB.out) GB40.out : Below w.heap.size w w48)); clear HO134; clear HB; have HO134 := n0_; have HB := n1_; clear n0_ n1_; clear hg hw hp_; have p137 : 0 ≤ (a1 : Int) := of_decide_eq_true (by first | (with_reducible assumption) | assumption); have q137 : a1 < (l0.length : Int) := of_decide_eq_true (by first | (with_reducible assumption) | assumption); obtain ⟨ad137, e137, hx137_0⟩ := Kd.at_int HR0.out a1 p137 q137; obtain rfl : ad135 = ad137 := (by injection e137); replace hx137_0 := (HB.out.cell (World.block_lt_of_cell? w _ hx137_0)).trans hx137_0; replace p137 := eq_true p137; replace q137 := eq_true q137; have p43 : 0 ≤ ((ji35) : Int) := of_decide_eq_true (by first | (with_reducible assumption) | assumption); have q43 : ((ji35) : Int) < ((y132.length : Int) : Int) := of_decide_eq_true (by first | (with_reducible assumption) | assumption); obtain ⟨hx43_0, hf43_0⟩ := Kd.R_celln 0 HO134.out ((ji35) : Int) p43 q43; replace p43 := eq_true p43; replace q43 := eq_true q43; obtain ⟨hy49_, hz49_⟩ := Kd.R_celln 0 HO134.out ((ji35) : Int) (of_decide_eq_true (by first | (with_reducible assumption) | assumption)) (of_decide_eq_true (by first | (with_reducible assumption) | assumption)); have HP49 := Kd.R_putg HO134.out ((ji35) : Int) (rd l0 a1)) | ((with_reducible refine gate_store (t := 5) (p := 79) rfl ?_); (try (rw [drewN_self w48]; generalize hq_ : World.drewN w48 _ = w48; have n0_ := Aside0.mk (Kd.R_at hq_ HO134.out); have n1_ := Aside0.mk (below_at hq_ HB.out); clear hq_ HO134 HB; have HO134 := n0_; have HB := n1_; clear n0_ n1_; (try (obtain ⟨hy49_, hz49_⟩ := Kd.R_celln 0 HO134.out ((ji35) : Int) (of_decide_eq_true (by first | (with_reducible assumption) | assumption)) (of_decide_eq_true (by first | (with_reducible assumption) | assumption)))); (try (have HP49 := Kd.R_putg HO134.out ((ji35) : Int) (rd l0 a1))))); refine store_event (t := 5) (p := 79) (v := ?vo_w50) (w1 := (w48.setCell ⟨go40, ((ji35) : Int).toNat, none⟩ (.int .u8 (rd l0 a1)))) ?hg ?ho ?hn ?hr ?_; (case ho => rfl); (case hg => rfl); (case hn => rfl); (case hr => first | (go_simp; done) | (go_simp; rfl)); intro w50 hw; have hg : w48.grownBy w50 (some go40) := (by rw [hw]; exact HP49.2); have hp_ : Kd.R (Kd.int .u8) 5 w50 w.heap.size (fun _ => True) (.slice (some ⟨go40, 0, none⟩) y132.length co40) y138 := (by rw [hw, Ny138.out]; exact HP49.1); clear HP49; have n0_ := Aside0.mk (hp_); have n1_ := Aside0.mk ((by rw [hw]; exact below_set (HB.out) GB40.out : Below w.heap.size w w50)); clear HO134; clear HB; have HO134 := n0_; have HB := n1_; clear n0_ n1_; clear hg hw hp_) | (go_at_call 11; refine calls_of_args (args' := #[.slice (some ⟨go40, 0, none⟩) y138.length co40]) (by first | (rw [show y138.length = y132.length from (Kd.R_reads' HO134.out).1.symm] <;> rfl) | rfl) ?_; (with_reducible refine (adler_Sum.calls kj25 _ _ y138 t139 _ ?side1 ?side2 A44.out).mono ?_); (case side1 => repeat (first | exact (Kd.R_reads' HO134.out).2.2 | (with_reducible refine Kd.C_alloc ?_ _) | (with_reducible refine Kd.C_drewN ?_ _) | (with_reducible refine Kd.C_drew ?_))); (case side2 => rw [show y138.length = y132.length from (Kd.R_reads' HO134.out).1.symm]; exact (Kd.R_reads' HO134.out).2.1); rintro e w51 ⟨rfl, hb⟩; have n0_ := Aside0.mk (Kd.R_below (by (with_reducible repeat (first | apply Kd.R_alloc | apply Kd.R_drewN | apply Kd.R_drew)); exact HO134.out) hb); have n1_ := Aside0.mk (below_step (by repeat (first | (with_reducible first | exact HB.out | apply below_alloc | apply pw_below_drewN | apply below_drew1) | exact HB.out)) hb); clear HO134; clear HB; have HO134 := n0_; have HB := n1_; clear n0_ n1_; (try clear hb); (try clear hb2); (try clear hk); (try clear hi)) | (go_at_call 11; (with_reducible refine (adler_Sum.calls kj25 _ _ l0 t140 _ ?side1 ?side2 A45.out).mono ?_); (case side1 => repeat (first | exact (Kd.C_below HR0.out HB.out) | (with_reducible refine Kd.C_alloc ?_ _) | (with_reducible refine Kd.C_drewN ?_ _) | (with_reducible refine Kd.C_drew ?_))); (case side2 => exact HC0.out); rintro e w52 ⟨rfl, hb⟩; have n0_ := Aside0.mk (Kd.R_below (by (with_reducible repeat (first | apply Kd.R_alloc | apply Kd.R_drewN | apply Kd.R_drew)); exact HO134.out) hb); have n1_ := Aside0.mk (below_step (by repeat (first | (with_reducible first | exact HB.out | apply below_alloc | apply pw_below_drewN | apply below_drew1) | exact HB.out)) hb); clear HO134; clear HB; have HO134 := n0_; have HB := n1_; clear n0_ n1_; (try clear hb); (try clear hb2); (try clear hk); (try clear hi)))
                                        repeat (go_quiet (first | ((with_reducible refine gate_builtin (b := .append) (xs := #[.const (.slice none 0 0), .tmp 62]) rfl ?_); (try (refine gate_guard (by rfl) ?_; dsimp only)); at_builtin; refine Kd.R_append_rows (Kd.int .u8) (w0 := w) w.heap.size rfl (.const (.slice none 0 0)) (.tmp 62) 22 5 (.int .u8 0) 1 rfl Try.underlying22 info5 rfl (by decide) (by omega) (.slice none 0 0) ([] : List Int) l0 _ _ _ (fun _ => True) (fun _ => False) rfl rfl ?aO ?aR (fun _ _ h => h) (fun _ h => h.elim) ?aF ?aB ?aS ?aL ?_; (case aR => repeat (first | exact (Kd.C_below HR0.out HB.out) | (with_reducible refine Kd.C_alloc ?_ _) | (with_reducible refine Kd.C_drewN ?_ _) | (with_reducible refine Kd.C_drew ?_))); (case aB => exact (by repeat (first | (with_reducible first | exact HB.out | apply below_alloc | apply pw_below_drewN | apply below_drew1) | exact HB.out))); (case aF => exact (fun _ _ => trivial)); (case aO => exact ((Kd.R_nil _ _ _ _ (fun _ => True)))); (case aS => exact (below_size (by repeat (first | (with_reducible first | exact HB.out | apply below_alloc | apply pw_below_drewN | apply below_drew1) | exact HB.out)))); (case aL => have := LMc34.out; omega); intro v133 w46 ho hb hg hat; rw [← Ny132.out] at ho; have n0_ := Aside0.mk (hb); have n1_ := Aside0.mk (ho); clear HB; have HB := n0_; have HO134 := n1_; clear n0_ n1_; clear ho hb hg hat; have p135 : 0 ≤ ((ji35) : Int) := of_decide_eq_true (by first | (with_reducible assumption) | assumption); have q135 : (ji35) < (l0.length : Int) := of_decide_eq_true (by first | (with_reducible assumption) | assumption); obtain ⟨ad135, e135, hx135_0⟩ := Kd.at_int HR0.out (ji35) p135 q135; cases e135; replace hx135_0 := (HB.out.cell (World.block_lt_of_cell? w _ hx135_0)).trans hx135_0; replace p135 := eq_true p135; replace q135 := eq_true q135; have p40 : 0 ≤ (a1 : Int) := of_decide_eq_true (by first | (with_reducible assumption) | assumption); have q40 : (a1 : Int) < ((y132.length : Int) : Int) := of_decide_eq_true (by first | (with_reducible assumption) | assumption); obtain ⟨go40, co40, eo40, gb40, gl40, cl40, HG40⟩ := Kd.R_form HO134.out (by omega); (first | cases eo40 | (injection eo40 with ea_ en_ ec_; (first | subst ea_ | (injection ea_ with ea_; subst ea_)); subst ec_; clear en_)); have GB40 := Aside0.mk gb40; have GG40 := Aside0.mk HG40; clear gb40 gl40 HG40; obtain ⟨hx40_0, hf40_0⟩ := Kd.R_celln 0 HO134.out (a1 : Int) p40 q40; replace p40 := eq_true p40; replace q40 := eq_true q40; obtain ⟨hy47_, hz47_⟩ := Kd.R_celln 0 HO134.out (a1 : Int) (of_decide_eq_true (by first | (with_reducible assumption) | assumption)) (of_decide_eq_true (by first | (with_reducible assumption) | assumption)); have HP47 := Kd.R_putg HO134.out (a1 : Int) (rd l0 (ji35))) | ((with_reducible refine gate_store (t := 5) (p := 71) rfl ?_); (try (rw [drewN_self w46]; generalize hq_ : World.drewN w46 _ = w46; have n0_ := Aside0.mk (Kd.R_at hq_ HO134.out); have n1_ := Aside0.mk (below_at hq_ HB.out); clear hq_ HO134 HB; have HO134 := n0_; have HB := n1_; clear n0_ n1_; (try (obtain ⟨hy47_, hz47_⟩ := Kd.R_celln 0 HO134.out (a1 : Int) (of_decide_eq_true (by first | (with_reducible assumption) | assumption)) (of_decide_eq_true (by first | (with_reducible assumption) | assumption)))); (try (have HP47 := Kd.R_putg HO134.out (a1 : Int) (rd l0 (ji35)))))); refine store_event (t := 5) (p := 71) (v := ?vo_w48) (w1 := (w46.setCell ⟨go40, (a1 : Int).toNat, none⟩ (.int .u8 (rd l0 (ji35))))) ?hg ?ho ?hn ?hr ?_; (case ho => rfl); (case hg => rfl); (case hn => rfl); (case hr => first | (go_simp; done) | (go_simp; rfl)); intro w48 hw; have hg : w46.grownBy w48 (some go40) := (by rw [hw]; exact HP47.2); have hp_ : Kd.R (Kd.int .u8) 5 w48 w.heap.size (fun _ => True) (.slice (some ⟨go40, 0, none⟩) y132.length co40) y136 := (by rw [hw, Ny136.out]; exact HP47.1); clear HP47; have n0_ := Aside0.mk (hp_); have n1_ := Aside0.mk ((by rw [hw]; exact below_set (HB.out) GB40.out : Below w.heap.size w w48)); clear HO134; clear HB; have HO134 := n0_; have HB := n1_; clear n0_ n1_; clear hg hw hp_; have p137 : 0 ≤ (a1 : Int) := of_decide_eq_true (by first | (with_reducible assumption) | assumption); have q137 : a1 < (l0.length : Int) := of_decide_eq_true (by first | (with_reducible assumption) | assumption); obtain ⟨ad137, e137, hx137_0⟩ := Kd.at_int HR0.out a1 p137 q137; obtain rfl : ad135 = ad137 := (by injection e137); replace hx137_0 := (HB.out.cell (World.block_lt_of_cell? w _ hx137_0)).trans hx137_0; replace p137 := eq_true p137; replace q137 := eq_true q137; have p43 : 0 ≤ ((ji35) : Int) := of_decide_eq_true (by first | (with_reducible assumption) | assumption); have q43 : ((ji35) : Int) < ((y132.length : Int) : Int) := of_decide_eq_true (by first | (with_reducible assumption) | assumption); obtain ⟨hx43_0, hf43_0⟩ := Kd.R_celln 0 HO134.out ((ji35) : Int) p43 q43; replace p43 := eq_true p43; replace q43 := eq_true q43; obtain ⟨hy49_, hz49_⟩ := Kd.R_celln 0 HO134.out ((ji35) : Int) (of_decide_eq_true (by first | (with_reducible assumption) | assumption)) (of_decide_eq_true (by first | (with_reducible assumption) | assumption)); have HP49 := Kd.R_putg HO134.out ((ji35) : Int) (rd l0 a1)) | ((with_reducible refine gate_store (t := 5) (p := 79) rfl ?_); (try (rw [drewN_self w48]; generalize hq_ : World.drewN w48 _ = w48; have n0_ := Aside0.mk (Kd.R_at hq_ HO134.out); have n1_ := Aside0.mk (below_at hq_ HB.out); clear hq_ HO134 HB; have HO134 := n0_; have HB := n1_; clear n0_ n1_; (try (obtain ⟨hy49_, hz49_⟩ := Kd.R_celln 0 HO134.out ((ji35) : Int) (of_decide_eq_true (by first | (with_reducible assumption) | assumption)) (of_decide_eq_true (by first | (with_reducible assumption) | assumption)))); (try (have HP49 := Kd.R_putg HO134.out ((ji35) : Int) (rd l0 a1))))); refine store_event (t := 5) (p := 79) (v := ?vo_w50) (w1 := (w48.setCell ⟨go40, ((ji35) : Int).toNat, none⟩ (.int .u8 (rd l0 a1)))) ?hg ?ho ?hn ?hr ?_; (case ho => rfl); (case hg => rfl); (case hn => rfl); (case hr => first | (go_simp; done) | (go_simp; rfl)); intro w50 hw; have hg : w48.grownBy w50 (some go40) := (by rw [hw]; exact HP49.2); have hp_ : Kd.R (Kd.int .u8) 5 w50 w.heap.size (fun _ => True) (.slice (some ⟨go40, 0, none⟩) y132.length co40) y138 := (by rw [hw, Ny138.out]; exact HP49.1); clear HP49; have n0_ := Aside0.mk (hp_); have n1_ := Aside0.mk ((by rw [hw]; exact below_set (HB.out) GB40.out : Below w.heap.size w w50)); clear HO134; clear HB; have HO134 := n0_; have HB := n1_; clear n0_ n1_; clear hg hw hp_) | (go_at_call 11; refine calls_of_args (args' := #[.slice (some ⟨go40, 0, none⟩) y138.length co40]) (by first | (rw [show y138.length = y132.length from (Kd.R_reads' HO134.out).1.symm] <;> rfl) | rfl) ?_; (with_reducible refine (adler_Sum.calls kj25 _ _ y138 t139 _ ?side1 ?side2 A44.out).mono ?_); (case side1 => repeat (first | exact (Kd.R_reads' HO134.out).2.2 | (with_reducible refine Kd.C_alloc ?_ _) | (with_reducible refine Kd.C_drewN ?_ _) | (with_reducible refine Kd.C_drew ?_))); (case side2 => rw [show y138.length = y132.length from (Kd.R_reads' HO134.out).1.symm]; exact (Kd.R_reads' HO134.out).2.1); rintro e w51 ⟨rfl, hb⟩; have n0_ := Aside0.mk (Kd.R_below (by (with_reducible repeat (first | apply Kd.R_alloc | apply Kd.R_drewN | apply Kd.R_drew)); exact HO134.out) hb); have n1_ := Aside0.mk (below_step (by repeat (first | (with_reducible first | exact HB.out | apply below_alloc | apply pw_below_drewN | apply below_drew1) | exact HB.out)) hb); clear HO134; clear HB; have HO134 := n0_; have HB := n1_; clear n0_ n1_; (try clear hb); (try clear hb2); (try clear hk); (try clear hi)) | (go_at_call 11; (with_reducible refine (adler_Sum.calls kj25 _ _ l0 t140 _ ?side1 ?side2 A45.out).mono ?_); (case side1 => repeat (first | exact (Kd.C_below HR0.out HB.out) | (with_reducible refine Kd.C_alloc ?_ _) | (with_reducible refine Kd.C_drewN ?_ _) | (with_reducible refine Kd.C_drew ?_))); (case side2 => exact HC0.out); rintro e w52 ⟨rfl, hb⟩; have n0_ := Aside0.mk (Kd.R_below (by (with_reducible repeat (first | apply Kd.R_alloc | apply Kd.R_drewN | apply Kd.R_drew)); exact HO134.out) hb); have n1_ := Aside0.mk (below_step (by repeat (first | (with_reducible first | exact HB.out | apply below_alloc | apply pw_below_drewN | apply below_drew1) | exact HB.out)) hb); clear HO134; clear HB; have HO134 := n0_; have HB := n1_; clear n0_ n1_; (try clear hb); (try clear hb2); (try clear hk); (try clear hi))); try go_wp2_with (first | ((with_reducible refine gate_builtin (b := .append) (xs := #[.const (.slice none 0 0), .tmp 62]) rfl ?_); (try (refine gate_guard (by rfl) ?_; dsimp only)); at_builtin; refine Kd.R_append_rows (Kd.int .u8) (w0 := w) w.heap.size rfl (.const (.slice none 0 0)) (.tmp 62) 22 5 (.int .u8 0) 1 rfl Try.underlying22 info5 rfl (by decide) (by omega) (.slice none 0 0) ([] : List Int) l0 _ _ _ (fun _ => True) (fun _ => False) rfl rfl ?aO ?aR (fun _ _ h => h) (fun _ h => h.elim) ?aF ?aB ?aS ?aL ?_; (case aR => repeat (first | exact (Kd.C_below HR0.out HB.out) | (with_reducible refine Kd.C_alloc ?_ _) | (with_reducible refine Kd.C_drewN ?_ _) | (with_reducible refine Kd.C_drew ?_))); (case aB => exact (by repeat (first | (with_reducible first | exact HB.out | apply below_alloc | apply pw_below_drewN | apply below_drew1) | exact HB.out))); (case aF => exact (fun _ _ => trivial)); (case aO => exact ((Kd.R_nil _ _ _ _ (fun _ => True)))); (case aS => exact (below_size (by repeat (first | (with_reducible first | exact HB.out | apply below_alloc | apply pw_below_drewN | apply below_drew1) | exact HB.out)))); (case aL => have := LMc34.out; omega); intro v133 w46 ho hb hg hat; rw [← Ny132.out] at ho; have n0_ := Aside0.mk (hb); have n1_ := Aside0.mk (ho); clear HB; have HB := n0_; have HO134 := n1_; clear n0_ n1_; clear ho hb hg hat; have p135 : 0 ≤ ((ji35) : Int) := of_decide_eq_true (by first | (with_reducible assumption) | assumption); have q135 : (ji35) < (l0.length : Int) := of_decide_eq_true (by first | (with_reducible assumption) | assumption); obtain ⟨ad135, e135, hx135_0⟩ := Kd.at_int HR0.out (ji35) p135 q135; cases e135; replace hx135_0 := (HB.out.cell (World.block_lt_of_cell? w _ hx135_0)).trans hx135_0; replace p135 := eq_true p135; replace q135 := eq_true q135; have p40 : 0 ≤ (a1 : Int) := of_decide_eq_true (by first | (with_reducible assumption) | assumption); have q40 : (a1 : Int) < ((y132.length : Int) : Int) := of_decide_eq_true (by first | (with_reducible assumption) | assumption); obtain ⟨go40, co40, eo40, gb40, gl40, cl40, HG40⟩ := Kd.R_form HO134.out (by omega); (first | cases eo40 | (injection eo40 with ea_ en_ ec_; (first | subst ea_ | (injection ea_ with ea_; subst ea_)); subst ec_; clear en_)); have GB40 := Aside0.mk gb40; have GG40 := Aside0.mk HG40; clear gb40 gl40 HG40; obtain ⟨hx40_0, hf40_0⟩ := Kd.R_celln 0 HO134.out (a1 : Int) p40 q40; replace p40 := eq_true p40; replace q40 := eq_true q40; obtain ⟨hy47_, hz47_⟩ := Kd.R_celln 0 HO134.out (a1 : Int) (of_decide_eq_true (by first | (with_reducible assumption) | assumption)) (of_decide_eq_true (by first | (with_reducible assumption) | assumption)); have HP47 := Kd.R_putg HO134.out (a1 : Int) (rd l0 (ji35))) | ((with_reducible refine gate_store (t := 5) (p := 71) rfl ?_); (try (rw [drewN_self w46]; generalize hq_ : World.drewN w46 _ = w46; have n0_ := Aside0.mk (Kd.R_at hq_ HO134.out); have n1_ := Aside0.mk (below_at hq_ HB.out); clear hq_ HO134 HB; have HO134 := n0_; have HB := n1_; clear n0_ n1_; (try (obtain ⟨hy47_, hz47_⟩ := Kd.R_celln 0 HO134.out (a1 : Int) (of_decide_eq_true (by first | (with_reducible assumption) | assumption)) (of_decide_eq_true (by first | (with_reducible assumption) | assumption)))); (try (have HP47 := Kd.R_putg HO134.out (a1 : Int) (rd l0 (ji35)))))); refine store_event (t := 5) (p := 71) (v := ?vo_w48) (w1 := (w46.setCell ⟨go40, (a1 : Int).toNat, none⟩ (.int .u8 (rd l0 (ji35))))) ?hg ?ho ?hn ?hr ?_; (case ho => rfl); (case hg => rfl); (case hn => rfl); (case hr => first | (go_simp; done) | (go_simp; rfl)); intro w48 hw; have hg : w46.grownBy w48 (some go40) := (by rw [hw]; exact HP47.2); have hp_ : Kd.R (Kd.int .u8) 5 w48 w.heap.size (fun _ => True) (.slice (some ⟨go40, 0, none⟩) y132.length co40) y136 := (by rw [hw, Ny136.out]; exact HP47.1); clear HP47; have n0_ := Aside0.mk (hp_); have n1_ := Aside0.mk ((by rw [hw]; exact below_set (HB.out) GB40.out : Below w.heap.size w w48)); clear HO134; clear HB; have HO134 := n0_; have HB := n1_; clear n0_ n1_; clear hg hw hp_; have p137 : 0 ≤ (a1 : Int) := of_decide_eq_true (by first | (with_reducible assumption) | assumption); have q137 : a1 < (l0.length : Int) := of_decide_eq_true (by first | (with_reducible assumption) | assumption); obtain ⟨ad137, e137, hx137_0⟩ := Kd.at_int HR0.out a1 p137 q137; obtain rfl : ad135 = ad137 := (by injection e137); replace hx137_0 := (HB.out.cell (World.block_lt_of_cell? w _ hx137_0)).trans hx137_0; replace p137 := eq_true p137; replace q137 := eq_true q137; have p43 : 0 ≤ ((ji35) : Int) := of_decide_eq_true (by first | (with_reducible assumption) | assumption); have q43 : ((ji35) : Int) < ((y132.length : Int) : Int) := of_decide_eq_true (by first | (with_reducible assumption) | assumption); obtain ⟨hx43_0, hf43_0⟩ := Kd.R_celln 0 HO134.out ((ji35) : Int) p43 q43; replace p43 := eq_true p43; replace q43 := eq_true q43; obtain ⟨hy49_, hz49_⟩ := Kd.R_celln 0 HO134.out ((ji35) : Int) (of_decide_eq_true (by first | (with_reducible assumption) | assumption)) (of_decide_eq_true (by first | (with_reducible assumption) | assumption)); have HP49 := Kd.R_putg HO134.out ((ji35) : Int) (rd l0 a1)) | ((with_reducible refine gate_store (t := 5) (p := 79) rfl ?_); (try (rw [drewN_self w48]; generalize hq_ : World.drewN w48 _ = w48; have n0_ := Aside0.mk (Kd.R_at hq_ HO134.out); have n1_ := Aside0.mk (below_at hq_ HB.out); clear hq_ HO134 HB; have HO134 := n0_; have HB := n1_; clear n0_ n1_; (try (obtain ⟨hy49_, hz49_⟩ := Kd.R_celln 0 HO134.out ((ji35) : Int) (of_decide_eq_true (by first | (with_reducible assumption) | assumption)) (of_decide_eq_true (by first | (with_reducible assumption) | assumption)))); (try (have HP49 := Kd.R_putg HO134.out ((ji35) : Int) (rd l0 a1))))); refine store_event (t := 5) (p := 79) (v := ?vo_w50) (w1 := (w48.setCell ⟨go40, ((ji35) : Int).toNat, none⟩ (.int .u8 (rd l0 a1)))) ?hg ?ho ?hn ?hr ?_; (case ho => rfl); (case hg => rfl); (case hn => rfl); (case hr => first | (go_simp; done) | (go_simp; rfl)); intro w50 hw; have hg : w48.grownBy w50 (some go40) := (by rw [hw]; exact HP49.2); have hp_ : Kd.R (Kd.int .u8) 5 w50 w.heap.size (fun _ => True) (.slice (some ⟨go40, 0, none⟩) y132.length co40) y138 := (by rw [hw, Ny138.out]; exact HP49.1); clear HP49; have n0_ := Aside0.mk (hp_); have n1_ := Aside0.mk ((by rw [hw]; exact below_set (HB.out) GB40.out : Below w.heap.size w w50)); clear HO134; clear HB; have HO134 := n0_; have HB := n1_; clear n0_ n1_; clear hg hw hp_) | (go_at_call 11; refine calls_of_args (args' := #[.slice (some ⟨go40, 0, none⟩) y138.length co40]) (by first | (rw [show y138.length = y132.length from (Kd.R_reads' HO134.out).1.symm] <;> rfl) | rfl) ?_; (with_reducible refine (adler_Sum.calls kj25 _ _ y138 t139 _ ?side1 ?side2 A44.out).mono ?_); (case side1 => repeat (first | exact (Kd.R_reads' HO134.out).2.2 | (with_reducible refine Kd.C_alloc ?_ _) | (with_reducible refine Kd.C_drewN ?_ _) | (with_reducible refine Kd.C_drew ?_))); (case side2 => rw [show y138.length = y132.length from (Kd.R_reads' HO134.out).1.symm]; exact (Kd.R_reads' HO134.out).2.1); rintro e w51 ⟨rfl, hb⟩; have n0_ := Aside0.mk (Kd.R_below (by (with_reducible repeat (first | apply Kd.R_alloc | apply Kd.R_drewN | apply Kd.R_drew)); exact HO134.out) hb); have n1_ := Aside0.mk (below_step (by repeat (first | (with_reducible first | exact HB.out | apply below_alloc | apply pw_below_drewN | apply below_drew1) | exact HB.out)) hb); clear HO134; clear HB; have HO134 := n0_; have HB := n1_; clear n0_ n1_; (try clear hb); (try clear hb2); (try clear hk); (try clear hi)) | (go_at_call 11; (with_reducible refine (adler_Sum.calls kj25 _ _ l0 t140 _ ?side1 ?side2 A45.out).mono ?_); (case side1 => repeat (first | exact (Kd.C_below HR0.out HB.out) | (with_reducible refine Kd.C_alloc ?_ _) | (with_reducible refine Kd.C_drewN ?_ _) | (with_reducible refine Kd.C_drew ?_))); (case side2 => exact HC0.out); rintro e w52 ⟨rfl, hb⟩; have n0_ := Aside0.mk (Kd.R_below (by (with_reducible repeat (first | apply Kd.R_alloc | apply Kd.R_drewN | apply Kd.R_drew)); exact HO134.out) hb); have n1_ := Aside0.mk (below_step (by repeat (first | (with_reducible first | exact HB.out | apply below_alloc | apply pw_below_drewN | apply below_drew1) | exact HB.out)) hb); clear HO134; clear HB; have HO134 := n0_; have HB := n1_; clear n0_ n1_; (try clear hb); (try clear hb2); (try clear hk); (try clear hi))))
                                        go_ret
                                        exact ⟨by first | rfl | (simp [errW_none, errW_some] <;> rfl) | (simp only [← hji35]; first | rfl | (simp [errW_none, errW_some] <;> rfl)) | (simp [*, errW_none, errW_some] <;> rfl), by repeat (first | (with_reducible first | exact HB.out | apply below_alloc | apply pw_below_drewN | apply below_drew1) | exact HB.out)⟩
                                      · rw [if_neg c42] at H
                                        exact absurd H (by simp)
                                    · rw [if_neg c41] at H
                                      exact absurd H (by simp)
                                  · rw [if_neg c39] at H
                                    exact absurd H (by simp)
                                · rw [if_neg c38] at H
                                  exact absurd H (by simp)
                              · rw [if_neg c37] at H
                                exact absurd H (by simp)
                            · rw [if_neg c36] at H
                              exact absurd H (by simp)
                          · rw [if_neg c34] at H
                            exact absurd H (by simp)
            · rw [if_neg c13] at H
              exact absurd H (by simp)
          · rw [if_neg c12] at H
            exact absurd H (by simp)
        · rw [if_neg c11] at H
          exact absurd H (by simp)

/-- THE ONE PURE STATEMENT of colloquylaw02_AdlerTurns: yours. -/
def colloquylaw02_AdlerTurns.Pure : Prop := ∀ (l0 : List Int) (a1 : Int) (a2 : Int), l0.length ≤ maxLen → l0.length * 1 ≤ 140737488351232 → (∀ x ∈ l0, (Lit.int .u8 x).wf = true) → (Lit.int .i64 a1).wf = true → (Lit.int .u8 a2).wf = true → ∃ k, colloquylaw02_AdlerTurns.f k l0 a1 a2 = some true
theorem colloquylaw02_AdlerTurns.walk (P : colloquylaw02_AdlerTurns.Pure) (a0 : Option Addr) (len0 cap0 : Nat) (z0 : List Int) (a1 : Int) (a2 : Int) (w : World) (w0 : (a0 = none ∧ len0 = 0 ∧ cap0 = 0 ∧ z0 = []) ∨ ∃ x, a0 = some x ∧ len0 ≤ cap0 ∧ cap0 ≤ maxLen ∧ z0.length = cap0 ∧ (∀ i, i < z0.length → w.cell? (x.add i) = some (.int .u8 (z0.getD i 0))) ∧ ∀ n ∈ z0, (Lit.int .u8 n).wf = true) (y0 : len0 * 1 ≤ 140737488351232) (w1 : (Lit.int .i64 a1).wf = true) (w2 : (Lit.int .u8 a2).wf = true) :
    Calls Try.prog 3 #[.slice a0 len0 cap0, .int .i64 a1, .int .u8 a2] w fun e w' => e = .returned (.bool true) ∧ Below w.heap.size w w' := by
  obtain ⟨l0, rfl, hr0, hm0, hw0, hc0⟩ := ReadsInt.ofRowC w0
  obtain ⟨k, h⟩ := P l0 a1 a2 hm0 y0 hw0 w1 w2
  refine (colloquylaw02_AdlerTurns.calls k _ _ l0 a1 a2 true w (Kd.C_of_reads (d := (0 : Int)) (h1 := fun _ => rfl) hr0) hc0 h).mono ?_
  rintro e w' ⟨rfl, hd⟩
  exact ⟨rfl, hd⟩

/-! ### colloquyref02_modulo: function 21 -/
def colloquyref02_modulo.f (a0 : Int) : Option (Int) := if (Int.tmod a0 65521) < 0 then (some (wrap64 ((Int.tmod a0 65521) + 65521))) else (some (Int.tmod a0 65521))
set_option maxHeartbeats 8000000 in
set_option maxRecDepth 100000 in
theorem colloquyref02_modulo.calls (a0 : Int) (r : Int) (w : World) (h : colloquyref02_modulo.f a0 = some r) :
    Calls Try.prog 21 #[.int .i64 a0] w fun e w' => e = .returned (.int .i64 r) ∧ Drawn0 w w' := by
  have H : (if (Int.tmod a0 65521) < 0 then (some (wrap64 ((Int.tmod a0 65521) + 65521))) else (some (Int.tmod a0 65521))) = some r := h
  clear h
  by_cases c2 : (Int.tmod a0 65521) < 0
  · rw [if_pos c2] at H
    have c2b0 : decide ((Int.tmod a0 65521) < 0) = true := decide_eq_true c2
    clear c2
    obtain rfl := Option.some.inj H
    go_enter Try.func21, Try.ntmps21
    go_wp2
    go_ret
    exact ⟨by first | rfl | (simp; done) | (simp [*]; done), by repeat (first | exact Drawn0.refl _ | apply Drawn0.step)⟩
  · rw [if_neg c2] at H
    have c2b0 : decide ((Int.tmod a0 65521) < 0) = false := decide_eq_false c2
    clear c2
    obtain rfl := Option.some.inj H
    go_enter Try.func21, Try.ntmps21
    go_wp2
    go_ret
    exact ⟨by first | rfl | (simp; done) | (simp [*]; done), by repeat (first | exact Drawn0.refl _ | apply Drawn0.step)⟩

/-! ### colloquyref02_whole: function 22 -/
def colloquyref02_whole.f (a0 : Int) (a1 : Int) : Option (Int) := (colloquyref02_modulo.f a1).bind fun t141 => ((colloquyref02_modulo.f a0).bind fun t142 => (some ((wrap64 ((wrap64 (t141 * 65536)) + t142)) % 4294967296)))
set_option maxHeartbeats 8000000 in
set_option maxRecDepth 100000 in
theorem colloquyref02_whole.calls (a0 : Int) (a1 : Int) (r : Int) (w : World) (h : colloquyref02_whole.f a0 a1 = some r) :
    Calls Try.prog 22 #[.int .i64 a0, .int .i64 a1] w fun e w' => e = .returned (.int .u32 r) ∧ Drawn0 w w' := by
  have H : ((colloquyref02_modulo.f a1).bind fun t141 => ((colloquyref02_modulo.f a0).bind fun t142 => (some ((wrap64 ((wrap64 (t141 * 65536)) + t142)) % 4294967296)))) = some r := h
  clear h
  replace H := Option.bind_eq_some_iff.mp H
  obtain ⟨t141, A30, H⟩ := H
  replace H : ((colloquyref02_modulo.f a0).bind fun t142 => (some ((wrap64 ((wrap64 (t141 * 65536)) + t142)) % 4294967296))) = some r := H
  have A3 := Aside0.mk A30
  clear A30
  replace H := Option.bind_eq_some_iff.mp H
  obtain ⟨t142, A40, H⟩ := H
  replace H : (some ((wrap64 ((wrap64 (t141 * 65536)) + t142)) % 4294967296)) = some r := H
  have A4 := Aside0.mk A40
  clear A40
  obtain rfl := Option.some.inj H
  go_enter Try.func22, Try.ntmps22
  go_wp2_with (first | ((with_reducible refine gate_callee (f := 21) rfl ?_); refine goesL_ (some 6) rfl rfl Try.func21 (by kernel_rfl) rfl #[.int .i64 a1] rfl (by (try simp only [List.map_toArray, List.map_cons, List.map_nil]); first | done | rfl | (simp only [List.length_drop, List.length_take]; rfl)) ?_; (with_reducible refine (colloquyref02_modulo.calls a1 t141 _ A3.out).mono ?_); rintro e w' ⟨rfl, ⟨nd, rfl⟩⟩; refine ⟨_, rfl, ?_⟩) | ((with_reducible refine gate_callee (f := 21) rfl ?_); refine goesL_ (some 9) rfl rfl Try.func21 (by kernel_rfl) rfl #[.int .i64 a0] rfl (by (try simp only [List.map_toArray, List.map_cons, List.map_nil]); first | done | rfl | (simp only [List.length_drop, List.length_take]; rfl)) ?_; (with_reducible refine (colloquyref02_modulo.calls a0 t142 _ A4.out).mono ?_); rintro e w' ⟨rfl, ⟨nd, rfl⟩⟩; refine ⟨_, rfl, ?_⟩))
  go_ret
  exact ⟨by first | rfl | (simp; done) | (simp [*]; done), by repeat (first | exact Drawn0.refl _ | apply Drawn0.step)⟩

/-! ### colloquyref02_Sum: function 12 -/
def colloquyref02_Sum.l0 : Nat → List Int → Int → Int → Int → Option (Int)
  | 0, _, _, _, _ => none
  | k + 1, x0, x3, x4, x5 => if x5 < (x0.length : Int) then (if 0 ≤ x5 then ((colloquyref02_modulo.f (wrap64 (x3 + (wrap64 (rd x0 x5))))).bind fun t144 => ((colloquyref02_modulo.f (wrap64 (x4 + t144))).bind fun t145 => (colloquyref02_Sum.l0 k x0 t144 t145 (wrap64 (x5 + 1))))) else (none)) else ((colloquyref02_whole.f x3 x4).bind fun t146 => (some t146))
def colloquyref02_Sum.f (k : Nat) (l0 : List Int) : Option (Int) := colloquyref02_Sum.l0 k l0 1 0 0
theorem colloquyref02_Sum.mono_l : ∀ k, (∀ y0 y1 y2 y3, LeO (colloquyref02_Sum.l0 k y0 y1 y2 y3) (colloquyref02_Sum.l0 (k + 1) y0 y1 y2 y3))
  | 0 => fun _ _ _ _ r h => by simp [colloquyref02_Sum.l0] at h
  | k + 1 => by
    have ih0 := colloquyref02_Sum.mono_l k
    · intro y0 y1 y2 y3
      unfold colloquyref02_Sum.l0
      repeat' first
      | (with_reducible exact ih0 _ _ _ _)
      | (with_reducible exact LeO.refl _)
      | (with_reducible exact LeO.none _)
      | (with_reducible refine LeO.ite ?_ ?_)
      | (with_reducible refine LeO.bind ?_ (fun _ => ?_))
      | exact ih0 _ _ _ _
      | exact LeO.none _
      | refine LeO.ite ?_ ?_
      | refine LeO.bind ?_ (fun _ => ?_)
theorem colloquyref02_Sum.mono : ∀ a0 k, LeO (colloquyref02_Sum.f k a0) (colloquyref02_Sum.f (k + 1) a0) := by
  intro a0 k
  have ih0 := colloquyref02_Sum.mono_l k
  unfold colloquyref02_Sum.f
  repeat' first
      | (with_reducible exact ih0 _ _ _ _)
      | (with_reducible exact LeO.refl _)
      | (with_reducible exact LeO.none _)
      | (with_reducible refine LeO.ite ?_ ?_)
      | (with_reducible refine LeO.bind ?_ (fun _ => ?_))
      | exact ih0 _ _ _ _
      | exact LeO.none _
      | refine LeO.ite ?_ ?_
      | refine LeO.bind ?_ (fun _ => ?_)
set_option maxHeartbeats 8000000 in
set_option maxRecDepth 100000 in
theorem colloquyref02_Sum.calls (k : Nat) (A0 : Option Addr) (c0 : Nat) (l0 : List Int) (r : Int) (w : World) (hr0 : Kd.C (Kd.int .u8) w A0 l0.length l0) (hc0 : l0.length ≤ c0) (h : colloquyref02_Sum.f k l0 = some r) :
    Calls Try.prog 12 #[.slice A0 l0.length c0] w fun e w' => e = .returned (.int .u32 r) ∧ Drawn0 w w' := by
  have HR0 := Aside0.mk hr0
  have HC0 := Aside0.mk hc0
  clear hr0 hc0
  have H : (colloquyref02_Sum.l0 k l0 1 0 0) = some r := h
  clear h
  have H' := Aside0.mk H
  clear H
  go_enter Try.func12, Try.ntmps12
  go_wp2
  go_loopg [3, 4, 5] k (fun kq v3 v4 v5 w' => ∃ (x3_1 : Int) (x4_1 : Int) (x5_1 : Int), v3 = .int .i64 x3_1 ∧ v4 = .int .i64 x4_1 ∧ v5 = .int .i64 x5_1 ∧ Aside0 (colloquyref02_Sum.l0 kq l0 x3_1 x4_1 x5_1 = some r) ∧ Aside0 (kq ≤ k) ∧ Drawn0 w w')
  case atStart => exact ⟨(1), (0), (0), (by first | rfl | (simp; done) | (simp [*]; done)), (by first | rfl | (simp; done) | (simp [*]; done)), (by first | rfl | (simp; done) | (simp [*]; done)), H', ⟨Nat.le_refl _⟩, by repeat (first | exact Drawn0.refl _ | apply Drawn0.step)⟩
  case round =>
    clear H'
    try clear c1
    obtain ⟨x3_1, x4_1, x5_1, rfl, rfl, rfl, HA, HK1, ⟨m1, rfl⟩⟩ := hrel
    cases gk with
    | zero => exact absurd HA.out (by simp [colloquyref02_Sum.l0])
    | succ k1 =>
      have H := HA.out
      clear HA
      simp only [colloquyref02_Sum.l0] at H
      by_cases c2 : x5_1 < (l0.length : Int)
      · rw [if_pos c2] at H
        have c2b0 : decide (x5_1 < (l0.length : Int)) = true := decide_eq_true c2
        clear c2
        by_cases c3 : 0 ≤ x5_1
        · rw [if_pos c3] at H
          have c3b0 : decide (0 ≤ x5_1) = true := decide_eq_true c3
          clear c3
          replace H := Option.bind_eq_some_iff.mp H
          obtain ⟨t144, A40, H⟩ := H
          replace H : ((colloquyref02_modulo.f (wrap64 (x4_1 + t144))).bind fun t145 => (colloquyref02_Sum.l0 k1 l0 t144 t145 (wrap64 (x5_1 + 1)))) = some r := H
          have A4 := Aside0.mk A40
          clear A40
          replace H := Option.bind_eq_some_iff.mp H
          obtain ⟨t145, A50, H⟩ := H
          replace H : (colloquyref02_Sum.l0 k1 l0 t144 t145 (wrap64 (x5_1 + 1))) = some r := H
          have A5 := Aside0.mk A50
          clear A50
          have H' := Aside0.mk H
          clear H
          have p143 : 0 ≤ (x5_1 : Int) := of_decide_eq_true (by first | (with_reducible assumption) | assumption)
          have q143 : x5_1 < (l0.length : Int) := of_decide_eq_true (by first | (with_reducible assumption) | assumption)
          obtain ⟨ad143, e143, hx143_0⟩ := Kd.at_int HR0.out x5_1 p143 q143
          cases e143
          replace p143 := eq_true p143
          replace q143 := eq_true q143
          go_wp2_with (first | ((with_reducible refine gate_callee (f := 21) rfl ?_); refine goesL_ (some 19) rfl rfl Try.func21 (by kernel_rfl) rfl #[.int .i64 (wrap64 (x3_1 + (wrap64 (rd l0 x5_1))))] rfl (by (try simp only [List.map_toArray, List.map_cons, List.map_nil]); first | done | rfl | (simp only [List.length_drop, List.length_take]; rfl)) ?_; (with_reducible refine (colloquyref02_modulo.calls (wrap64 (x3_1 + (wrap64 (rd l0 x5_1)))) t144 _ A4.out).mono ?_); rintro e w' ⟨rfl, ⟨nd, rfl⟩⟩; refine ⟨_, rfl, ?_⟩) | ((with_reducible refine gate_callee (f := 21) rfl ?_); refine goesL_ (some 23) rfl rfl Try.func21 (by kernel_rfl) rfl #[.int .i64 (wrap64 (x4_1 + t144))] rfl (by (try simp only [List.map_toArray, List.map_cons, List.map_nil]); first | done | rfl | (simp only [List.length_drop, List.length_take]; rfl)) ?_; (with_reducible refine (colloquyref02_modulo.calls (wrap64 (x4_1 + t144)) t145 _ A5.out).mono ?_); rintro e w' ⟨rfl, ⟨nd, rfl⟩⟩; refine ⟨_, rfl, ?_⟩))
          go_roundg k1
          case measure => have := HK1.out; omega
          case rel => exact ⟨(t144), (t145), (wrap64 (x5_1 + 1)), (by first | rfl | (simp; done) | (simp [*]; done)), (by first | rfl | (simp; done) | (simp [*]; done)), (by first | rfl | (simp; done) | (simp [*]; done)), H', ⟨by have := HK1.out; omega⟩, by repeat (first | exact Drawn0.refl _ | apply Drawn0.step)⟩
        · rw [if_neg c3] at H
          exact absurd H (by simp)
      · rw [if_neg c2] at H
        have c2b0 : decide (x5_1 < (l0.length : Int)) = false := decide_eq_false c2
        clear c2
        replace H := Option.bind_eq_some_iff.mp H
        obtain ⟨t146, A60, H⟩ := H
        replace H : (some t146) = some r := H
        have A6 := Aside0.mk A60
        clear A60
        obtain rfl := Option.some.inj H
        go_wp2_with (first | ((with_reducible refine gate_callee (f := 22) rfl ?_); refine goesL_ (some 26) rfl rfl Try.func22 (by kernel_rfl) rfl #[.int .i64 x3_1, .int .i64 x4_1] rfl (by (try simp only [List.map_toArray, List.map_cons, List.map_nil]); first | done | rfl | (simp only [List.length_drop, List.length_take]; rfl)) ?_; (with_reducible refine (colloquyref02_whole.calls x3_1 x4_1 t146 _ A6.out).mono ?_); rintro e w' ⟨rfl, ⟨nd, rfl⟩⟩; refine ⟨_, rfl, ?_⟩))
        go_ret
        exact ⟨by first | rfl | (simp; done) | (simp [*]; done), by repeat (first | exact Drawn0.refl _ | apply Drawn0.step)⟩

/-! ### adler_of: function 23 -/
def adler_of.f (a0 : Int) : Option (Int × Int) := some (wrap64 (Go.bits .and .u32 a0 65535), wrap64 (a0 / 65536))
set_option maxHeartbeats 8000000 in
set_option maxRecDepth 100000 in
theorem adler_of.calls (a0 : Int) (r1 : Int) (r2 : Int) (w : World) (h : adler_of.f a0 = some (r1, r2)) :
    Calls Try.prog 23 #[.int .u32 a0] w fun e w' => e = .returned (.agg #[.int .i64 r1, .int .i64 r2]) ∧ Below w.heap.size w w' := by
  have hu37 := Try.underlying37
  have HB := Aside0.mk (Below.refl w.heap.size w)
  have H : (some (wrap64 (Go.bits .and .u32 a0 65535), wrap64 (a0 / 65536))) = some (r1, r2) := h
  clear h
  simp only [Option.some.injEq, Prod.mk.injEq] at H
  obtain ⟨rfl, rfl⟩ := H
  go_enter Try.func23, Try.ntmps23
  go_wp2_with (first | ((with_reducible refine gate_dst (N := 2) rfl ?_); refine box_event ?hg (N := 2) ?hd (cs := #[.int .i64 0, .int .i64 0]) (t := 37) ?hr ?_; (case hd => rfl); (case hg => rfl); (case hr => first | (go_simp; done) | (go_simp; rfl)); intro gb147 hg w2 hbox hb; have n0_ := Aside0.mk (below_step (by repeat (first | (with_reducible first | exact HB.out | apply below_alloc | apply pw_below_drewN | apply below_drew1) | exact HB.out)) hb); have n1_ := Aside0.mk (hbox); have n2_ := Aside0.mk ((by rw [hg]; exact (below_size (by repeat (first | (with_reducible first | exact HB.out | apply below_alloc | apply pw_below_drewN | apply below_drew1) | exact HB.out))) : w.heap.size ≤ gb147)); have n3_ := Aside0.mk ((by rw [hg]; exact (below_size (by repeat (first | (with_reducible first | exact HB.out | apply below_alloc | apply pw_below_drewN | apply below_drew1) | exact HB.out))) : w.heap.size ≤ gb147)); clear HB; have HB := n0_; have BK147 := n1_; have GW147 := n2_; have GE147 := n3_; clear n0_ n1_ n2_ n3_; clear hb hbox hg; have hcz3_0 : w2.cell? ⟨gb147, 0, none⟩ = some (.int .i64 0) := (blk_cell BK147.out 0).trans rfl; have hcz3_1 : w2.cell? ⟨gb147, 1, none⟩ = some (.int .i64 0) := (blk_cell BK147.out 1).trans rfl; have hfz3_0 := blk_frozen BK147.out 0; have hfz3_1 := blk_frozen BK147.out 1))
  refine bodyPost_ret (results_cell_row rfl _ _ gb147 37 #[.int .i64 (wrap64 (Go.bits .and .u32 a0 65535)), .int .i64 (wrap64 (a0 / 65536))] (0, 0) _ rfl (by (with_reducible repeat (first | refine blk_drewN ?_ _ | refine blk_drew ?_ | refine blk_alloc ?_ _)); refine blk_put (cs := #[.int .i64 (wrap64 (Go.bits .and .u32 a0 65535)), .int .i64 0]) ?_ 1 _ rfl; (with_reducible repeat (first | refine blk_drewN ?_ _ | refine blk_drew ?_ | refine blk_alloc ?_ _)); refine blk_put (cs := #[.int .i64 0, .int .i64 0]) ?_ 0 _ rfl; (with_reducible repeat (first | refine blk_drewN ?_ _ | refine blk_drew ?_ | refine blk_alloc ?_ _)); exact BK147.out) Try.underlying37 rfl (by kernel_rfl)) rfl ?_
  exact ⟨by first | rfl | (simp [errW_none, errW_some] <;> rfl) | (simp [*, errW_none, errW_some] <;> rfl), by repeat (first | (with_reducible first | exact HB.out | apply below_alloc | apply pw_below_drewN | apply below_drew1 | refine below_set ?_ GE147.out) | exact HB.out)⟩

end Go.Proofs.Ytbkfnhkgfagelaa.PAll
