/- The machine's side of this claim, written by a program of this session out of the translation: for each Go function a Lean function of its answers, and the proof that the code comes to just these. Conditions: those that each theorem states. -/
import Derived.Test.YtbkfnhkgfagelaaPAllx0
import Derived.Test.YtbkfnhkgfagelaaPAllx2
import Derived.Test.YtbkfnhkgfagelaaPAllx3
import Derived.Test.YtbkfnhkgfagelaaPAllx4
import Derived.Test.YtbkfnhkgfagelaaPAllx5
import Derived.Test.YtbkfnhkgfagelaaPAllx6
namespace Go.Proofs.Ytbkfnhkgfagelaa.PAll
open Go.RowKit Go.Proofs.YtbkfnhkgfagelaaW.PrintWords Go.Proofs.YtbkfnhkgfagelaaW.PrintLast Go.Proofs.YtbkfnhkgfagelaaW.PrintMore
attribute [local go_sem] max2_int min2_int max_two min_two max_three min_three max_four min_four   -- for this text's walks alone
set_option linter.unusedVariables false
set_option linter.unusedSimpArgs false

/-! ### colloquylaw02_AdlerDrops: function 6 -/
def colloquylaw02_AdlerDrops.j0 : Nat → List Int → Bool → Bool → Option (Bool)
  | 0, _, _, _ => none
  | k + 1, x0, x3, x16 => if x16 = true then (some x3) else ((adler_Sum.f k x0).bind fun t220 => (if 0 < (x0.length : Int) then ((adler_Drop.f k t220 (rd x0 0) (wrap64 ((x0.length : Int) - 1))).bind fun t222 => (if 1 ≤ (x0.length : Int) then ((adler_Sum.f k (x0.drop 1)).bind fun t224 => (some (t222 == t224))) else (none))) else (none)))
def colloquylaw02_AdlerDrops.f (k : Nat) (l0 : List Int) : Option (Bool) := (colloquylaw02_awake.f k).bind fun t219 => (if t219 = true then (if (l0.length : Int) > 6000 then (colloquylaw02_AdlerDrops.j0 k l0 t219 true) else (colloquylaw02_AdlerDrops.j0 k l0 t219 ((l0.length : Int) == 0))) else (colloquylaw02_AdlerDrops.j0 k l0 t219 true))
theorem colloquylaw02_AdlerDrops.mono_l : ∀ k, (∀ y0 y1 y2, LeO (colloquylaw02_AdlerDrops.j0 k y0 y1 y2) (colloquylaw02_AdlerDrops.j0 (k + 1) y0 y1 y2))
  | 0 => fun _ _ _ r h => by simp [colloquylaw02_AdlerDrops.j0] at h
  | k + 1 => by
    have ih0 := colloquylaw02_AdlerDrops.mono_l k
    · intro y0 y1 y2
      unfold colloquylaw02_AdlerDrops.j0
      repeat' first
      | (with_reducible exact ih0 _ _ _)
      | (with_reducible exact adler_Drop.mono _ _ _ _)
      | (with_reducible exact adler_Sum.mono _ _)
      | (with_reducible exact colloquylaw02_awake.mono _)
      | (with_reducible exact LeO.refl _)
      | (with_reducible exact LeO.none _)
      | (with_reducible refine LeO.ite ?_ ?_)
      | (with_reducible refine LeO.bind ?_ (fun _ => ?_))
      | exact ih0 _ _ _
      | exact adler_Drop.mono _ _ _ _
      | exact adler_Sum.mono _ _
      | exact colloquylaw02_awake.mono _
      | exact LeO.none _
      | refine LeO.ite ?_ ?_
      | refine LeO.bind ?_ (fun _ => ?_)
theorem colloquylaw02_AdlerDrops.mono : ∀ a0 k, LeO (colloquylaw02_AdlerDrops.f k a0) (colloquylaw02_AdlerDrops.f (k + 1) a0) := by
  intro a0 k
  have ih0 := colloquylaw02_AdlerDrops.mono_l k
  unfold colloquylaw02_AdlerDrops.f
  repeat' first
      | (with_reducible exact ih0 _ _ _)
      | (with_reducible exact adler_Drop.mono _ _ _ _)
      | (with_reducible exact adler_Sum.mono _ _)
      | (with_reducible exact colloquylaw02_awake.mono _)
      | (with_reducible exact LeO.refl _)
      | (with_reducible exact LeO.none _)
      | (with_reducible refine LeO.ite ?_ ?_)
      | (with_reducible refine LeO.bind ?_ (fun _ => ?_))
      | exact ih0 _ _ _
      | exact adler_Drop.mono _ _ _ _
      | exact adler_Sum.mono _ _
      | exact colloquylaw02_awake.mono _
      | exact LeO.none _
      | refine LeO.ite ?_ ?_
      | refine LeO.bind ?_ (fun _ => ?_)
def colloquylaw02_AdlerDrops.T4 : Bool × List (List Nat × List Nat) := (true, [([], []), ([0], [0]), ([], []), ([2], [2]), ([3], [3]), ([], []), ([5], [5]), ([6], [6]), ([1, 4, 7, 1], [1, 4, 7]), ([], []), ([9], [9]), ([10, 8], [10]), ([8, 11], [8, 11]), ([12, 11, 0, 1, 2, 3, 4, 5, 6, 7, 8, 9, 10, 11, 12], [12])])
def colloquylaw02_AdlerDrops.B4 : List Nat := [0, 1, 0, 4, 12, 0, 32, 96, 255, 0, 512, 2047, 4095, 8191]
theorem colloquylaw02_AdlerDrops.tab4 : rtab .any (opsOf Try.f6 4) = colloquylaw02_AdlerDrops.T4 := by kernel_rfl
theorem colloquylaw02_AdlerDrops.bits4 : waitsOk colloquylaw02_AdlerDrops.T4.2 colloquylaw02_AdlerDrops.B4 = true := by kernel_rfl
set_option maxHeartbeats 8000000 in
set_option maxRecDepth 100000 in
theorem colloquylaw02_AdlerDrops.calls (k : Nat) (A0 : Option Addr) (c0 : Nat) (l0 : List Int) (r : Bool) (w : World) (hr0 : Kd.C (Kd.int .u8) w A0 l0.length l0) (hc0 : l0.length ≤ c0) (h : colloquylaw02_AdlerDrops.f k l0 = some r) :
    Calls Try.prog 6 #[.slice A0 l0.length c0] w fun e w' => e = .returned (.bool r) ∧ Below w.heap.size w w' := by
  have HR0 := Aside0.mk hr0
  have HC0 := Aside0.mk hc0
  clear hr0 hc0
  have HB := Aside0.mk (Below.refl w.heap.size w)
  have H : ((colloquylaw02_awake.f k).bind fun t219 => (if t219 = true then (if (l0.length : Int) > 6000 then (colloquylaw02_AdlerDrops.j0 k l0 t219 true) else (colloquylaw02_AdlerDrops.j0 k l0 t219 ((l0.length : Int) == 0))) else (colloquylaw02_AdlerDrops.j0 k l0 t219 true))) = some r := h
  clear h
  replace H := Option.bind_eq_some_iff.mp H
  obtain ⟨t219, A20, H⟩ := H
  replace H : (if t219 = true then (if (l0.length : Int) > 6000 then (colloquylaw02_AdlerDrops.j0 k l0 t219 true) else (colloquylaw02_AdlerDrops.j0 k l0 t219 ((l0.length : Int) == 0))) else (colloquylaw02_AdlerDrops.j0 k l0 t219 true)) = some r := H
  have A2 := Aside0.mk A20
  clear A20
  have HC3 := Aside0.mk H
  clear H
  go_enter Try.func6, Try.ntmps6
  go_upto_region 2 with (first | ((with_reducible refine gate_callee (f := 10) rfl ?_); refine goesL_ (some 4) rfl rfl Try.func10 (by kernel_rfl) rfl #[] rfl (by (try simp only [List.map_toArray, List.map_cons, List.map_nil]); first | done | rfl | (simp only [List.length_drop, List.length_take]; rfl)) ?_; (with_reducible refine (colloquylaw02_awake.calls k  t219 _ A2.out).mono ?_); rintro e w4 ⟨rfl, hb⟩; refine ⟨_, rfl, ?_⟩; have n0_ := Aside0.mk (below_step (by repeat (first | (with_reducible first | exact HB.out | apply below_alloc | apply pw_below_drewN | apply below_drew1) | exact HB.out)) hb); clear HB; have HB := n0_; clear n0_; (try clear hb); (try clear hb2); (try clear hk); (try clear hi)))
  (try simp only [Act.put, List.setIfInBounds_toArray, List.set_cons_zero, List.set_cons_succ])
  go_cut [16] (fun v16 wc => ∃ (kq : Nat) (x16_2 : Bool), v16 = .bool x16_2 ∧ Aside0 (colloquylaw02_AdlerDrops.j0 kq l0 t219 x16_2 = some r) ∧ Aside0 (kq ≤ k) ∧ Aside0 (Below w.heap.size w wc))
  case first =>
    have H := HC3.out
    clear HC3
    by_cases c5 : t219 = true
    · subst c5
      have H1 : (if (l0.length : Int) > 6000 then (colloquylaw02_AdlerDrops.j0 k l0 true true) else (colloquylaw02_AdlerDrops.j0 k l0 true ((l0.length : Int) == 0))) = some r := by rw [if_pos rfl] at H; exact H
      clear H
      have H := H1
      clear H1
      by_cases c6 : (l0.length : Int) > 6000
      · rw [if_pos c6] at H
        have c6b0 : decide (6000 < (l0.length : Int)) = true := decide_eq_true c6
        have c6b1 : decide (6000 < l0.length) = true := decide_eq_true (by omega)
        clear c6
        (first | rw [c6b0] | (simp only [i64_w, i32_w]; rw [c6b0]) | skip)
        have H' := Aside0.mk H
        clear H
        go_wp2
        go_meet
        case rel => exact ⟨_, (true), (by first | rfl | (simp; done) | (simp [*]; done)), H', ⟨by first | omega | exact Nat.le_refl _⟩, ⟨by repeat (first | (with_reducible first | exact HB.out | apply below_alloc | apply pw_below_drewN | apply below_drew1) | exact HB.out)⟩⟩
      · rw [if_neg c6] at H
        have c6b0 : decide (6000 < (l0.length : Int)) = false := decide_eq_false c6
        have c6b1 : decide (6000 < l0.length) = false := decide_eq_false (by omega)
        clear c6
        (first | rw [c6b0] | (simp only [i64_w, i32_w]; rw [c6b0]) | skip)
        have H' := Aside0.mk H
        clear H
        go_wp2
        go_meet
        case rel => exact ⟨_, (((l0.length : Int) == 0)), (by first | rfl | (simp; done) | (simp [*]; done)), H', ⟨by first | omega | exact Nat.le_refl _⟩, ⟨by repeat (first | (with_reducible first | exact HB.out | apply below_alloc | apply pw_below_drewN | apply below_drew1) | exact HB.out)⟩⟩
    · replace c5 := Bool.eq_false_iff.mpr c5
      subst c5
      have H1 : (colloquylaw02_AdlerDrops.j0 k l0 false true) = some r := by rw [if_neg (show ¬ (false = true) by decide)] at H; exact H
      clear H
      have H := H1
      clear H1
      have H' := Aside0.mk H
      clear H
      go_wp2
      go_meet
      case rel => exact ⟨_, (true), (by first | rfl | (simp; done) | (simp [*]; done)), H', ⟨by first | omega | exact Nat.le_refl _⟩, ⟨by repeat (first | (with_reducible first | exact HB.out | apply below_alloc | apply pw_below_drewN | apply below_drew1) | exact HB.out)⟩⟩
  case rest =>
    clear HC3
    try clear c1
    try clear p2
    try clear c5
    try clear c6
    try clear c6b0
    try clear c6b1
    obtain ⟨kq, x16_2, rfl, HA, HJ2, HB⟩ := hcut
    cases kq with
    | zero => exact absurd HA.out (by simp [colloquylaw02_AdlerDrops.j0])
    | succ kj2 =>
      have H := HA.out
      clear HA
      simp only [colloquylaw02_AdlerDrops.j0] at H
      by_cases c7 : x16_2 = true
      · subst c7
        have H1 : (some t219) = some r := by rw [if_pos rfl] at H; exact H
        clear H
        have H := H1
        clear H1
        obtain rfl := Option.some.inj H
        go_wp2
        go_ret
        exact ⟨by first | rfl | (simp [errW_none, errW_some] <;> rfl) | (simp [*, errW_none, errW_some] <;> rfl), by repeat (first | (with_reducible first | exact HB.out | apply below_alloc | apply pw_below_drewN | apply below_drew1) | exact HB.out)⟩
      · replace c7 := Bool.eq_false_iff.mpr c7
        subst c7
        have H1 : ((adler_Sum.f kj2 l0).bind fun t220 => (if 0 < (l0.length : Int) then ((adler_Drop.f kj2 t220 (rd l0 0) (wrap64 ((l0.length : Int) - 1))).bind fun t222 => (if 1 ≤ (l0.length : Int) then ((adler_Sum.f kj2 (l0.drop 1)).bind fun t224 => (some (t222 == t224))) else (none))) else (none))) = some r := by rw [if_neg (show ¬ (false = true) by decide)] at H; exact H
        clear H
        have H := H1
        clear H1
        replace H := Option.bind_eq_some_iff.mp H
        obtain ⟨t220, A80, H⟩ := H
        replace H : (if 0 < (l0.length : Int) then ((adler_Drop.f kj2 t220 (rd l0 0) (wrap64 ((l0.length : Int) - 1))).bind fun t222 => (if 1 ≤ (l0.length : Int) then ((adler_Sum.f kj2 (l0.drop 1)).bind fun t224 => (some (t222 == t224))) else (none))) else (none)) = some r := H
        have A8 := Aside0.mk A80
        clear A80
        by_cases c9 : 0 < (l0.length : Int)
        · rw [if_pos c9] at H
          have c9b0 : decide (0 < (l0.length : Int)) = true := decide_eq_true c9
          have c9b1 : decide (0 < l0.length) = true := decide_eq_true (by omega)
          clear c9
          replace H := Option.bind_eq_some_iff.mp H
          obtain ⟨t222, A100, H⟩ := H
          replace H : (if 1 ≤ (l0.length : Int) then ((adler_Sum.f kj2 (l0.drop 1)).bind fun t224 => (some (t222 == t224))) else (none)) = some r := H
          have A10 := Aside0.mk A100
          clear A100
          by_cases c11 : 1 ≤ (l0.length : Int)
          · rw [if_pos c11] at H
            have c11b0 := eq_true c11
            have c11b1 : decide (1 ≤ (l0.length : Int)) = true := decide_eq_true c11
            clear c11
            replace H := Option.bind_eq_some_iff.mp H
            obtain ⟨t224, A120, H⟩ := H
            replace H : (some (t222 == t224)) = some r := H
            have A12 := Aside0.mk A120
            clear A120
            obtain rfl := Option.some.inj H
            try go_wp2
            have n0_ := Aside0.mk (below_drew1 HB.out)
            clear HB
            have HB := n0_
            clear n0_
            have p221 : 0 ≤ (0 : Int) := (by omega)
            have q221 : 0 < (l0.length : Int) := of_decide_eq_true (by first | (with_reducible assumption) | assumption)
            obtain ⟨ad221, e221, hx221_0⟩ := Kd.at_int HR0.out 0 p221 q221
            have hw221_0 := hx221_0
            (try rw [show ((0 : Int)).toNat = 0 from rfl] at hw221_0)
            (try rw [show 0 * 1 = 0 from rfl] at hw221_0)
            (try rw [Addr.add_zero'] at hw221_0)
            cases e221
            have qi221 : (0 < l0.length) = True := eq_true (by omega)
            (try rw [show ((0 : Int)).toNat = 0 from rfl] at hx221_0)
            (try rw [Addr.add_zero'] at hx221_0)
            replace hx221_0 := (HB.out.cell (World.block_lt_of_cell? w _ hx221_0)).trans hx221_0
            replace p221 := eq_true p221
            replace q221 := eq_true q221
            obtain ⟨i014, hi014, _, hsz14, _⟩ := info_parts info5
            obtain ⟨A14, hcut14, hA14, hC14⟩ := print_drop_of (P := Try.prog) (Value.int .u8) 0 22 5 .i64 Try.underlying22 hi014 hsz14 (some ad221) c0 l0 1 (by omega) (of_decide_eq_true (by first | (with_reducible assumption) | assumption)) HC0.out
            have HR223 := Aside0.mk (Kd.C_of_reads (h1 := fun _ => rfl) (hA14 _ (Kd.reads_of_C HR0.out)))
            have HC223 := Aside0.mk hC14
            clear hA14 hC14 hi014 hsz14
            refine start_ (n := 14) (S := fun w' => w'.cell? ad221 = some (.int .u8 (rd l0 0))) (ds := []) #[false, false, false, false, false, false, false, false, false, false, false, false, false, false] (by kernel_rfl) rfl rfl (((HB.out.cell (World.block_lt_of_cell? w _ hw221_0)).trans hw221_0)) (fun hHeld => ?_); refine with_tabW colloquylaw02_AdlerDrops.tab4 colloquylaw02_AdlerDrops.bits4 (fun HT_ HW_ => ?_)
            generalize wc.drew = w13 at HB HR223 hx221_0 hHeld ⊢
            refine pure_ (i := 0) (N := some 18) (v := ?_) (a' := ?_) #[true, false, false, false, false, false, false, false, false, false, false, false, false, false] rfl rfl (any_of HT_.out (by kernel_rfl)) (fun _ _ _ h => h) (Or.inl ⟨by rfl, ?_⟩) ?_ ?_
            rotate_left
            · intro w'
              go_simp
              with_reducible rfl
            rotate_left
            · simp only [Act.put, List.setIfInBounds_toArray, List.set_cons_zero, List.set_cons_succ, i64_w, i32_w]
              rfl
            refine pure_ (i := 2) (N := some 20) (v := ?_) (a' := ?_) #[true, false, true, false, false, false, false, false, false, false, false, false, false, false] rfl rfl (any_of HT_.out (by kernel_rfl)) (fun _ _ _ h => h) (Or.inl ⟨by rfl, ?_⟩) ?_ ?_
            rotate_left
            · intro w'
              go_simp
              with_reducible rfl
            rotate_left
            · simp only [Act.put, List.setIfInBounds_toArray, List.set_cons_zero, List.set_cons_succ, i64_w, i32_w]
              rfl
            refine pure_ (i := 3) (N := some 21) (v := ?_) (a' := ?_) #[true, false, true, true, false, false, false, false, false, false, false, false, false, false] rfl rfl (any_of HT_.out (by kernel_rfl)) (fun _ _ _ h => h) (Or.inl ⟨by rfl, ?_⟩) ?_ ?_
            rotate_left
            · intro w'
              go_simp
              with_reducible rfl
            rotate_left
            · simp only [Act.put, List.setIfInBounds_toArray, List.set_cons_zero, List.set_cons_succ, i64_w, i32_w]
              rfl
            refine pure_ (i := 5) (N := some 23) (v := ?_) (a' := ?_) #[true, false, true, true, false, true, false, false, false, false, false, false, false, false] rfl rfl (any_of HT_.out (by kernel_rfl)) (fun _ _ _ h => h) (Or.inl ⟨by rfl, ?_⟩) ?_ ?_
            rotate_left
            · intro w'
              go_simp
              with_reducible rfl
            rotate_left
            · simp only [Act.put, List.setIfInBounds_toArray, List.set_cons_zero, List.set_cons_succ, i64_w, i32_w]
              rfl
            refine pure_ (i := 6) (N := some 24) (v := ?_) (a' := ?_) #[true, false, true, true, false, true, true, false, false, false, false, false, false, false] rfl rfl (any_of HT_.out (by kernel_rfl)) (fun _ _ _ h => h) (Or.inl ⟨by rfl, ?_⟩) ?_ ?_
            rotate_left
            · intro w'
              go_simp
              with_reducible rfl
            rotate_left
            · simp only [Act.put, List.setIfInBounds_toArray, List.set_cons_zero, List.set_cons_succ, i64_w, i32_w]
              rfl
            refine pure_ (i := 7) (N := some 25) (v := ?_) (a' := ?_) #[true, false, true, true, false, true, true, true, false, false, false, false, false, false] rfl rfl (any_of HT_.out (by kernel_rfl)) (fun _ _ _ h => h) (Or.inl ⟨by rfl, ?_⟩) ?_ ?_
            rotate_left
            · intro w'
              go_simp
              with_reducible rfl
            rotate_left
            · simp only [Act.put, List.setIfInBounds_toArray, List.set_cons_zero, List.set_cons_succ, i64_w, i32_w]
              rfl
            refine pure_ (i := 9) (N := some 27) (v := ?_) (a' := ?_) #[true, false, true, true, false, true, true, true, false, true, false, false, false, false] rfl rfl (any_of HT_.out (by kernel_rfl)) (fun _ _ _ h => h) (Or.inl ⟨by rfl, ?_⟩) ?_ ?_
            rotate_left
            · intro w'
              go_simp
              with_reducible rfl
            rotate_left
            · simp only [Act.put, List.setIfInBounds_toArray, List.set_cons_zero, List.set_cons_succ, i64_w, i32_w]
              rfl
            refine pure_ (i := 10) (N := some 28) (v := ?_) (a' := ?_) #[true, false, true, true, false, true, true, true, false, true, true, false, false, false] rfl rfl (any_of HT_.out (by kernel_rfl)) (fun _ _ _ h => h) (Or.inl ⟨by rfl, ?_⟩) ?_ ?_
            rotate_left
            · intro w'
              go_simp
              with_reducible rfl
            rotate_left
            · simp only [Act.put, List.setIfInBounds_toArray, List.set_cons_zero, List.set_cons_succ, i64_w, i32_w]
              rfl
            refine take_ (i := 4) (N := some 22) (v := ?_) (a' := ?_) #[true, false, true, true, true, true, true, true, false, true, true, false, false, false] rfl rfl (take_ofW HT_.out HW_.out (by kernel_rfl)) (fun _ _ _ h => h) (Or.inl ⟨by rfl, ?_⟩) hHeld ?_ ?_
            rotate_left
            · intro w' s0
              go_simp
              with_reducible rfl
            rotate_left
            · simp only [Act.put, List.setIfInBounds_toArray, List.set_cons_zero, List.set_cons_succ, i64_w, i32_w]
              rfl
            refine one_ (i := 1) (N := some 19) #[true, true, true, true, true, true, true, true, false, true, true, false, false, false] rfl rfl (one_of HT_.out (by kernel_rfl)) (by decide) (fun K hK => ?_)
            refine goes_ Try.func11 (by kernel_rfl) rfl #[.slice (some ad221) l0.length c0] (by rfl) rfl rfl (by (try simp only [List.map_toArray, List.map_cons, List.map_nil]); first | done | rfl | (simp only [List.length_drop, List.length_take]; rfl)) ?_
            with_reducible refine (adler_Sum.calls kj2 _ _ l0 t220 _ ?side1 ?side2 A8.out).mono ?_
            (case side1 => repeat (first | exact (Kd.C_below HR0.out HB.out) | (with_reducible refine Kd.C_alloc ?_ _) | (with_reducible refine Kd.C_drewN ?_ _) | (with_reducible refine Kd.C_drew ?_)))
            (case side2 => exact HC0.out)
            rintro e w15 ⟨rfl, hb⟩
            refine ⟨_, rfl, ?_⟩
            have n0_ := Aside0.mk (below_step (by repeat (first | (with_reducible first | exact HB.out | apply below_alloc | apply pw_below_drewN | apply below_drew1) | exact HB.out)) hb)
            clear HB
            have HB := n0_
            clear n0_
            (try clear hb)
            (try clear hb2)
            (try clear hk)
            (try clear hi)
            refine hK.out _ _ (((HB.out.cell (World.block_lt_of_cell? w _ hw221_0)).trans hw221_0)) (fun hHeld => ?_)
            clear hK K
            refine norm_ (a' := ?_) ?_ ?_
            rotate_left
            · show Act.put _ (some 19) _ = _
              simp only [Act.put, List.setIfInBounds_toArray, List.set_cons_zero, List.set_cons_succ, i64_w, i32_w]
              rfl
            refine one_ (i := 8) (N := some 26) #[true, true, true, true, true, true, true, true, true, true, true, false, false, false] rfl rfl (one_of HT_.out (by kernel_rfl)) (by decide) (fun K hK => ?_)
            refine goes_ Try.func16 (by kernel_rfl) rfl #[.int .u32 t220, .int .u8 (rd l0 0), .int .i64 (wrap64 ((l0.length : Int) - 1))] (by rfl) rfl rfl (by (try simp only [List.map_toArray, List.map_cons, List.map_nil]); first | done | rfl | (simp only [List.length_drop, List.length_take]; rfl)) ?_
            with_reducible refine (adler_Drop.calls kj2 t220 (rd l0 0) (wrap64 ((l0.length : Int) - 1)) t222 _ A10.out).mono ?_
            rintro e w16 ⟨rfl, hb⟩
            refine ⟨_, rfl, ?_⟩
            have n0_ := Aside0.mk (below_step (by repeat (first | (with_reducible first | exact HB.out | apply below_alloc | apply pw_below_drewN | apply below_drew1) | exact HB.out)) hb)
            clear HB
            have HB := n0_
            clear n0_
            (try clear hb)
            (try clear hb2)
            (try clear hk)
            (try clear hi)
            refine hK.out _ _ (((HB.out.cell (World.block_lt_of_cell? w _ hw221_0)).trans hw221_0)) (fun hHeld => ?_)
            clear hK K
            refine norm_ (a' := ?_) ?_ ?_
            rotate_left
            · show Act.put _ (some 26) _ = _
              simp only [Act.put, List.setIfInBounds_toArray, List.set_cons_zero, List.set_cons_succ, i64_w, i32_w]
              rfl
            refine one_ (i := 11) (N := some 29) #[true, true, true, true, true, true, true, true, true, true, true, true, false, false] rfl rfl (one_of HT_.out (by kernel_rfl)) (by decide) (fun K hK => ?_)
            refine goes_ Try.func11 (by kernel_rfl) rfl #[.slice A14 (l0.drop 1).length (c0 - 1)] (by rfl) rfl rfl (by (try simp only [List.map_toArray, List.map_cons, List.map_nil]); first | done | (rw [show (l0.drop 1).length = (l0.length - 1) from List.length_drop] <;> rfl) | rfl | (simp only [List.length_drop, List.length_take]; rfl)) ?_
            with_reducible refine (adler_Sum.calls kj2 _ _ (l0.drop 1) t224 _ ?side1 ?side2 A12.out).mono ?_
            (case side1 => repeat (first | exact (Kd.C_below HR223.out HB.out) | (with_reducible refine Kd.C_alloc ?_ _) | (with_reducible refine Kd.C_drewN ?_ _) | (with_reducible refine Kd.C_drew ?_)))
            (case side2 => exact HC223.out)
            rintro e w17 ⟨rfl, hb⟩
            refine ⟨_, rfl, ?_⟩
            have n0_ := Aside0.mk (below_step (by repeat (first | (with_reducible first | exact HB.out | apply below_alloc | apply pw_below_drewN | apply below_drew1) | exact HB.out)) hb)
            clear HB
            have HB := n0_
            clear n0_
            (try clear hb)
            (try clear hb2)
            (try clear hk)
            (try clear hi)
            refine hK.out _ _ (((HB.out.cell (World.block_lt_of_cell? w _ hw221_0)).trans hw221_0)) (fun hHeld => ?_)
            clear hK K
            refine norm_ (a' := ?_) ?_ ?_
            rotate_left
            · show Act.put _ (some 29) _ = _
              simp only [Act.put, List.setIfInBounds_toArray, List.set_cons_zero, List.set_cons_succ, i64_w, i32_w]
              rfl
            refine pure_ (i := 12) (N := some 30) (v := ?_) (a' := ?_) #[true, true, true, true, true, true, true, true, true, true, true, true, true, false] rfl rfl (any_of HT_.out (by kernel_rfl)) (fun _ _ _ h => h) (Or.inl ⟨by rfl, ?_⟩) ?_ ?_
            rotate_left
            · intro w'
              go_simp
              with_reducible rfl
            rotate_left
            · simp only [Act.put, List.setIfInBounds_toArray, List.set_cons_zero, List.set_cons_succ, i64_w, i32_w]
              rfl
            refine pure_ (i := 13) (N := some 2) (v := ?_) (a' := ?_) #[true, true, true, true, true, true, true, true, true, true, true, true, true, true] rfl rfl (any_of HT_.out (by kernel_rfl)) (fun _ _ _ h => h) (Or.inl ⟨by rfl, ?_⟩) ?_ ?_
            rotate_left
            · intro w'
              go_simp
              with_reducible rfl
            rotate_left
            · simp only [Act.put, List.setIfInBounds_toArray, List.set_cons_zero, List.set_cons_succ, i64_w, i32_w]
              rfl
            refine done_ (done_of HT_.out (by kernel_rfl)) ?_
            try go_wp2
            go_ret
            exact ⟨by first | rfl | (simp [errW_none, errW_some] <;> rfl) | (simp [*, errW_none, errW_some] <;> rfl), by repeat (first | (with_reducible first | exact HB.out | apply below_alloc | apply pw_below_drewN | apply below_drew1) | exact HB.out)⟩
          · rw [if_neg c11] at H
            exact absurd H (by simp)
        · rw [if_neg c9] at H
          exact absurd H (by simp)

/-- THE ONE PURE STATEMENT of colloquylaw02_AdlerDrops: yours. -/
def colloquylaw02_AdlerDrops.Pure : Prop := ∀ (l0 : List Int), l0.length ≤ maxLen → l0.length * 1 ≤ 140737488351232 → (∀ x ∈ l0, (Lit.int .u8 x).wf = true) → ∃ k, colloquylaw02_AdlerDrops.f k l0 = some true
theorem colloquylaw02_AdlerDrops.walk (P : colloquylaw02_AdlerDrops.Pure) (a0 : Option Addr) (len0 cap0 : Nat) (z0 : List Int) (w : World) (w0 : (a0 = none ∧ len0 = 0 ∧ cap0 = 0 ∧ z0 = []) ∨ ∃ x, a0 = some x ∧ len0 ≤ cap0 ∧ cap0 ≤ maxLen ∧ z0.length = cap0 ∧ (∀ i, i < z0.length → w.cell? (x.add i) = some (.int .u8 (z0.getD i 0))) ∧ ∀ n ∈ z0, (Lit.int .u8 n).wf = true) (y0 : len0 * 1 ≤ 140737488351232) :
    Calls Try.prog 6 #[.slice a0 len0 cap0] w fun e w' => e = .returned (.bool true) ∧ Below w.heap.size w w' := by
  obtain ⟨l0, rfl, hr0, hm0, hw0, hc0⟩ := ReadsInt.ofRowC w0
  obtain ⟨k, h⟩ := P l0 hm0 y0 hw0
  refine (colloquylaw02_AdlerDrops.calls k _ _ l0 true w (Kd.C_of_reads (d := (0 : Int)) (h1 := fun _ => rfl) hr0) hc0 h).mono ?_
  rintro e w' ⟨rfl, hd⟩
  exact ⟨rfl, hd⟩

/-! ### colloquylaw02_AdlerZeros: function 7 -/
def colloquylaw02_AdlerZeros.j0 : Nat → List Int → Int → Bool → Bool → Option (Bool)
  | 0, _, _, _, _ => none
  | k + 1, x0, x1, x5, x17 => if x17 = true then (some x5) else ((adler_Sum.f k x0).bind fun t226 => (if ([] : List Int).length + x0.length < 140737488355328 then ((some (([] : List Int) ++ x0 : List Int)).bind fun y227 => (if y227.length < 140737488355328 then ((adler_Sum.f k (y227 ++ [x1])).bind fun t233 => (if t233 = (((((((Int.tdiv t226 65536) % 4294967296) + ((((Int.tmod t226 65536) + ((x1) % 4294967296)) % 4294967296) % 65521)) % 4294967296) % 65521) * 65536) + ((((Int.tmod t226 65536) + ((x1) % 4294967296)) % 4294967296) % 65521)) then ((adler_Sum.f k (([x1] : List Int))).bind fun t237 => ((adler_Join.f k t226 t237 1).bind fun t238 => (some (t233 == t238)))) else (some false))) else (none))) else (none)))
def colloquylaw02_AdlerZeros.f (k : Nat) (l0 : List Int) (a1 : Int) : Option (Bool) := (colloquylaw02_awake.f k).bind fun t225 => (if t225 = true then (colloquylaw02_AdlerZeros.j0 k l0 a1 t225 (decide ((l0.length : Int) > 3000))) else (colloquylaw02_AdlerZeros.j0 k l0 a1 t225 true))
theorem colloquylaw02_AdlerZeros.mono_l : ∀ k, (∀ y0 y1 y2 y3, LeO (colloquylaw02_AdlerZeros.j0 k y0 y1 y2 y3) (colloquylaw02_AdlerZeros.j0 (k + 1) y0 y1 y2 y3))
  | 0 => fun _ _ _ _ r h => by simp [colloquylaw02_AdlerZeros.j0] at h
  | k + 1 => by
    have ih0 := colloquylaw02_AdlerZeros.mono_l k
    · intro y0 y1 y2 y3
      unfold colloquylaw02_AdlerZeros.j0
      repeat' first
      | (with_reducible exact ih0 _ _ _ _)
      | (with_reducible exact adler_Join.mono _ _ _ _)
      | (with_reducible exact adler_Sum.mono _ _)
      | (with_reducible exact colloquylaw02_awake.mono _)
      | (with_reducible exact LeO.refl _)
      | (with_reducible exact LeO.none _)
      | (with_reducible refine LeO.ite ?_ ?_)
      | (with_reducible refine LeO.bind ?_ (fun _ => ?_))
      | exact ih0 _ _ _ _
      | exact adler_Join.mono _ _ _ _
      | exact adler_Sum.mono _ _
      | exact colloquylaw02_awake.mono _
      | exact LeO.none _
      | refine LeO.ite ?_ ?_
      | refine LeO.bind ?_ (fun _ => ?_)
theorem colloquylaw02_AdlerZeros.mono : ∀ a0 a1 k, LeO (colloquylaw02_AdlerZeros.f k a0 a1) (colloquylaw02_AdlerZeros.f (k + 1) a0 a1) := by
  intro a0 a1 k
  have ih0 := colloquylaw02_AdlerZeros.mono_l k
  unfold colloquylaw02_AdlerZeros.f
  repeat' first
      | (with_reducible exact ih0 _ _ _ _)
      | (with_reducible exact adler_Join.mono _ _ _ _)
      | (with_reducible exact adler_Sum.mono _ _)
      | (with_reducible exact colloquylaw02_awake.mono _)
      | (with_reducible exact LeO.refl _)
      | (with_reducible exact LeO.none _)
      | (with_reducible refine LeO.ite ?_ ?_)
      | (with_reducible refine LeO.bind ?_ (fun _ => ?_))
      | exact ih0 _ _ _ _
      | exact adler_Join.mono _ _ _ _
      | exact adler_Sum.mono _ _
      | exact colloquylaw02_awake.mono _
      | exact LeO.none _
      | refine LeO.ite ?_ ?_
      | refine LeO.bind ?_ (fun _ => ?_)
set_option maxHeartbeats 8000000 in
set_option maxRecDepth 100000 in
theorem colloquylaw02_AdlerZeros.calls (k : Nat) (A0 : Option Addr) (c0 : Nat) (l0 : List Int) (a1 : Int) (r : Bool) (w : World) (hr0 : Kd.C (Kd.int .u8) w A0 l0.length l0) (hc0 : l0.length ≤ c0) (h : colloquylaw02_AdlerZeros.f k l0 a1 = some r) :
    Calls Try.prog 7 #[.slice A0 l0.length c0, .int .u8 a1] w fun e w' => e = .returned (.bool r) ∧ Below w.heap.size w w' := by
  have HR0 := Aside0.mk hr0
  have HC0 := Aside0.mk hc0
  clear hr0 hc0
  have HB := Aside0.mk (Below.refl w.heap.size w)
  have H : ((colloquylaw02_awake.f k).bind fun t225 => (if t225 = true then (colloquylaw02_AdlerZeros.j0 k l0 a1 t225 (decide ((l0.length : Int) > 3000))) else (colloquylaw02_AdlerZeros.j0 k l0 a1 t225 true))) = some r := h
  clear h
  replace H := Option.bind_eq_some_iff.mp H
  obtain ⟨t225, A30, H⟩ := H
  replace H : (if t225 = true then (colloquylaw02_AdlerZeros.j0 k l0 a1 t225 (decide ((l0.length : Int) > 3000))) else (colloquylaw02_AdlerZeros.j0 k l0 a1 t225 true)) = some r := H
  have A3 := Aside0.mk A30
  clear A30
  have HC4 := Aside0.mk H
  clear H
  go_enter Try.func7, Try.ntmps7
  go_upto_region 2 with (first | ((with_reducible refine gate_callee (f := 10) rfl ?_); refine goesL_ (some 10) rfl rfl Try.func10 (by kernel_rfl) rfl #[] rfl (by (try simp only [List.map_toArray, List.map_cons, List.map_nil]); first | done | rfl | (simp only [List.length_drop, List.length_take]; rfl)) ?_; (with_reducible refine (colloquylaw02_awake.calls k  t225 _ A3.out).mono ?_); rintro e w5 ⟨rfl, hb⟩; refine ⟨_, rfl, ?_⟩; have n0_ := Aside0.mk (below_step (by repeat (first | (with_reducible first | exact HB.out | apply below_alloc | apply pw_below_drewN | apply below_drew1) | exact HB.out)) hb); clear HB; have HB := n0_; clear n0_; (try clear hb); (try clear hb2); (try clear hk); (try clear hi)))
  (try simp only [Act.put, List.setIfInBounds_toArray, List.set_cons_zero, List.set_cons_succ])
  go_cut [17] (fun v17 wc => ∃ (kq : Nat) (x17_3 : Bool), v17 = .bool x17_3 ∧ Aside0 (colloquylaw02_AdlerZeros.j0 kq l0 a1 t225 x17_3 = some r) ∧ Aside0 (kq ≤ k) ∧ Aside0 (Below w.heap.size w wc))
  case first =>
    have H := HC4.out
    clear HC4
    by_cases c6 : t225 = true
    · subst c6
      have H1 : (colloquylaw02_AdlerZeros.j0 k l0 a1 true (decide ((l0.length : Int) > 3000))) = some r := by rw [if_pos rfl] at H; exact H
      clear H
      have H := H1
      clear H1
      have H' := Aside0.mk H
      clear H
      go_wp2
      go_meet
      case rel => exact ⟨_, (decide ((l0.length : Int) > 3000)), (by first | rfl | (simp; done) | (simp [*]; done)), H', ⟨by first | omega | exact Nat.le_refl _⟩, ⟨by repeat (first | (with_reducible first | exact HB.out | apply below_alloc | apply pw_below_drewN | apply below_drew1) | exact HB.out)⟩⟩
    · replace c6 := Bool.eq_false_iff.mpr c6
      subst c6
      have H1 : (colloquylaw02_AdlerZeros.j0 k l0 a1 false true) = some r := by rw [if_neg (show ¬ (false = true) by decide)] at H; exact H
      clear H
      have H := H1
      clear H1
      have H' := Aside0.mk H
      clear H
      go_wp2
      go_meet
      case rel => exact ⟨_, (true), (by first | rfl | (simp; done) | (simp [*]; done)), H', ⟨by first | omega | exact Nat.le_refl _⟩, ⟨by repeat (first | (with_reducible first | exact HB.out | apply below_alloc | apply pw_below_drewN | apply below_drew1) | exact HB.out)⟩⟩
  case rest =>
    clear HC4
    try clear c1
    try clear p2
    try clear c6
    obtain ⟨kq, x17_3, rfl, HA, HJ3, HB⟩ := hcut
    cases kq with
    | zero => exact absurd HA.out (by simp [colloquylaw02_AdlerZeros.j0])
    | succ kj3 =>
      have H := HA.out
      clear HA
      simp only [colloquylaw02_AdlerZeros.j0] at H
      by_cases c7 : x17_3 = true
      · subst c7
        have H1 : (some t225) = some r := by rw [if_pos rfl] at H; exact H
        clear H
        have H := H1
        clear H1
        obtain rfl := Option.some.inj H
        go_wp2
        go_ret
        exact ⟨by first | rfl | (simp [errW_none, errW_some] <;> rfl) | (simp [*, errW_none, errW_some] <;> rfl), by repeat (first | (with_reducible first | exact HB.out | apply below_alloc | apply pw_below_drewN | apply below_drew1) | exact HB.out)⟩
      · replace c7 := Bool.eq_false_iff.mpr c7
        subst c7
        have H1 : ((adler_Sum.f kj3 l0).bind fun t226 => (if ([] : List Int).length + l0.length < 140737488355328 then ((some (([] : List Int) ++ l0 : List Int)).bind fun y227 => (if y227.length < 140737488355328 then ((adler_Sum.f kj3 (y227 ++ [a1])).bind fun t233 => (if t233 = (((((((Int.tdiv t226 65536) % 4294967296) + ((((Int.tmod t226 65536) + ((a1) % 4294967296)) % 4294967296) % 65521)) % 4294967296) % 65521) * 65536) + ((((Int.tmod t226 65536) + ((a1) % 4294967296)) % 4294967296) % 65521)) then ((adler_Sum.f kj3 (([a1] : List Int))).bind fun t237 => ((adler_Join.f kj3 t226 t237 1).bind fun t238 => (some (t233 == t238)))) else (some false))) else (none))) else (none))) = some r := by rw [if_neg (show ¬ (false = true) by decide)] at H; exact H
        clear H
        have H := H1
        clear H1
        replace H := Option.bind_eq_some_iff.mp H
        obtain ⟨t226, A80, H⟩ := H
        replace H : (if ([] : List Int).length + l0.length < 140737488355328 then ((some (([] : List Int) ++ l0 : List Int)).bind fun y227 => (if y227.length < 140737488355328 then ((adler_Sum.f kj3 (y227 ++ [a1])).bind fun t233 => (if t233 = (((((((Int.tdiv t226 65536) % 4294967296) + ((((Int.tmod t226 65536) + ((a1) % 4294967296)) % 4294967296) % 65521)) % 4294967296) % 65521) * 65536) + ((((Int.tmod t226 65536) + ((a1) % 4294967296)) % 4294967296) % 65521)) then ((adler_Sum.f kj3 (([a1] : List Int))).bind fun t237 => ((adler_Join.f kj3 t226 t237 1).bind fun t238 => (some (t233 == t238)))) else (some false))) else (none))) else (none)) = some r := H
        have A8 := Aside0.mk A80
        clear A80
        by_cases c9 : ([] : List Int).length + l0.length < 140737488355328
        · rw [if_pos c9] at H
          have LMc9 := Aside0.mk c9
          clear c9
          obtain ⟨y227, hy227⟩ : ∃ y_ : List Int, y_ = (([] : List Int) ++ l0) := ⟨_, rfl⟩
          replace H : (if y227.length < 140737488355328 then ((adler_Sum.f kj3 (y227 ++ [a1])).bind fun t233 => (if t233 = (((((((Int.tdiv t226 65536) % 4294967296) + ((((Int.tmod t226 65536) + ((a1) % 4294967296)) % 4294967296) % 65521)) % 4294967296) % 65521) * 65536) + ((((Int.tmod t226 65536) + ((a1) % 4294967296)) % 4294967296) % 65521)) then ((adler_Sum.f kj3 (([a1] : List Int))).bind fun t237 => ((adler_Join.f kj3 t226 t237 1).bind fun t238 => (some (t233 == t238)))) else (some false))) else (none)) = some r := by first | (rw [hy227]; with_reducible exact H) | (have H2_ := (Option.bind_some _ _).symm.trans H; rw [hy227]; with_reducible exact H2_) | (have H2_ := (Option.bind_some _ _).symm.trans H; with_reducible exact H2_) | with_reducible exact H | (rw [hy227]; exact H) | exact H
          have Ny227 := Aside0.mk hy227
          clear hy227
          by_cases c10 : y227.length < 140737488355328
          · rw [if_pos c10] at H
            have LMc10 := Aside0.mk c10
            clear c10
            obtain ⟨y230, hy230⟩ : ∃ y_ : List Int, y_ = (y227 ++ [a1]) := ⟨_, rfl⟩
            replace H : ((adler_Sum.f kj3 y230).bind fun t233 => (if t233 = (((((((Int.tdiv t226 65536) % 4294967296) + ((((Int.tmod t226 65536) + ((a1) % 4294967296)) % 4294967296) % 65521)) % 4294967296) % 65521) * 65536) + ((((Int.tmod t226 65536) + ((a1) % 4294967296)) % 4294967296) % 65521)) then ((adler_Sum.f kj3 (([a1] : List Int))).bind fun t237 => ((adler_Join.f kj3 t226 t237 1).bind fun t238 => (some (t233 == t238)))) else (some false))) = some r := by first | (rw [hy230]; with_reducible exact H) | (have H2_ := (Option.bind_some _ _).symm.trans H; rw [hy230]; with_reducible exact H2_) | (have H2_ := (Option.bind_some _ _).symm.trans H; with_reducible exact H2_) | with_reducible exact H | (rw [hy230]; exact H) | exact H
            have Ny230 := Aside0.mk hy230
            clear hy230
            replace H := Option.bind_eq_some_iff.mp H
            obtain ⟨t233, A110, H⟩ := H
            replace H : (if t233 = (((((((Int.tdiv t226 65536) % 4294967296) + ((((Int.tmod t226 65536) + ((a1) % 4294967296)) % 4294967296) % 65521)) % 4294967296) % 65521) * 65536) + ((((Int.tmod t226 65536) + ((a1) % 4294967296)) % 4294967296) % 65521)) then ((adler_Sum.f kj3 (([a1] : List Int))).bind fun t237 => ((adler_Join.f kj3 t226 t237 1).bind fun t238 => (some (t233 == t238)))) else (some false)) = some r := H
            have A11 := Aside0.mk A110
            clear A110
            by_cases c12 : t233 = (((((((Int.tdiv t226 65536) % 4294967296) + ((((Int.tmod t226 65536) + ((a1) % 4294967296)) % 4294967296) % 65521)) % 4294967296) % 65521) * 65536) + ((((Int.tmod t226 65536) + ((a1) % 4294967296)) % 4294967296) % 65521))
            · rw [if_pos c12] at H
              have c12b0 : (t233 == (((((((Int.tdiv t226 65536) % 4294967296) + ((((Int.tmod t226 65536) + ((a1) % 4294967296)) % 4294967296) % 65521)) % 4294967296) % 65521) * 65536) + ((((Int.tmod t226 65536) + ((a1) % 4294967296)) % 4294967296) % 65521))) = true := beq_iff_eq.mpr c12
              have c12b1 : (t233 != (((((((Int.tdiv t226 65536) % 4294967296) + ((((Int.tmod t226 65536) + ((a1) % 4294967296)) % 4294967296) % 65521)) % 4294967296) % 65521) * 65536) + ((((Int.tmod t226 65536) + ((a1) % 4294967296)) % 4294967296) % 65521))) = false := bne_eq_false_iff_eq.mpr c12; simp only [Int.add_emod_emod, Int.emod_add_emod] at c12b0 c12b1
              clear c12
              obtain ⟨y234, hy234⟩ : ∃ y_ : List Int, y_ = (([a1] : List Int)) := ⟨_, rfl⟩
              replace H : ((adler_Sum.f kj3 y234).bind fun t237 => ((adler_Join.f kj3 t226 t237 1).bind fun t238 => (some (t233 == t238)))) = some r := by first | (rw [hy234]; with_reducible exact H) | (have H2_ := (Option.bind_some _ _).symm.trans H; rw [hy234]; with_reducible exact H2_) | (have H2_ := (Option.bind_some _ _).symm.trans H; with_reducible exact H2_) | with_reducible exact H | (rw [hy234]; exact H) | exact H
              have Ny234 := Aside0.mk hy234
              clear hy234
              replace H := Option.bind_eq_some_iff.mp H
              obtain ⟨t237, A130, H⟩ := H
              replace H : ((adler_Join.f kj3 t226 t237 1).bind fun t238 => (some (t233 == t238))) = some r := H
              have A13 := Aside0.mk A130
              clear A130
              replace H := Option.bind_eq_some_iff.mp H
              obtain ⟨t238, A140, H⟩ := H
              replace H : (some (t233 == t238)) = some r := H
              have A14 := Aside0.mk A140
              clear A140
              obtain rfl := Option.some.inj H
              go_wp2_with (first | ((with_reducible refine gate_callee (f := 11) rfl ?_); refine goesL_ (some 20) rfl rfl Try.func11 (by kernel_rfl) rfl #[.slice A0 l0.length c0] rfl (by (try simp only [List.map_toArray, List.map_cons, List.map_nil]); first | done | rfl | (simp only [List.length_drop, List.length_take]; rfl)) ?_; (with_reducible refine (adler_Sum.calls kj3 _ _ l0 t226 _ ?side1 ?side2 A8.out).mono ?_); (case side1 => repeat (first | exact (Kd.C_below HR0.out HB.out) | (with_reducible refine Kd.C_alloc ?_ _) | (with_reducible refine Kd.C_drewN ?_ _) | (with_reducible refine Kd.C_drew ?_))); (case side2 => exact HC0.out); rintro e w15 ⟨rfl, hb⟩; refine ⟨_, rfl, ?_⟩; have n0_ := Aside0.mk (below_step (by repeat (first | (with_reducible first | exact HB.out | apply below_alloc | apply pw_below_drewN | apply below_drew1) | exact HB.out)) hb); clear HB; have HB := n0_; clear n0_; (try clear hb); (try clear hb2); (try clear hk); (try clear hi)) | ((with_reducible refine gate_builtin (b := .append) (xs := #[.const (.slice none 0 0), .tmp 21]) rfl ?_); (try (refine gate_guard (by rfl) ?_; dsimp only)); at_builtin; refine Kd.R_append_rows (Kd.int .u8) (w0 := w) w.heap.size rfl (.const (.slice none 0 0)) (.tmp 21) 22 5 (.int .u8 0) 1 rfl Try.underlying22 info5 rfl (by decide) (by omega) (.slice none 0 0) ([] : List Int) l0 _ _ _ (fun _ => True) (fun _ => False) rfl rfl ?aO ?aR (fun _ _ h => h) (fun _ h => h.elim) ?aF ?aB ?aS ?aL ?_; (case aR => repeat (first | exact (Kd.C_below HR0.out HB.out) | (with_reducible refine Kd.C_alloc ?_ _) | (with_reducible refine Kd.C_drewN ?_ _) | (with_reducible refine Kd.C_drew ?_))); (case aB => exact (by repeat (first | (with_reducible first | exact HB.out | apply below_alloc | apply pw_below_drewN | apply below_drew1) | exact HB.out))); (case aF => exact (fun _ _ => trivial)); (case aO => exact ((Kd.R_nil _ _ _ _ (fun _ => True)))); (case aS => exact (below_size (by repeat (first | (with_reducible first | exact HB.out | apply below_alloc | apply pw_below_drewN | apply below_drew1) | exact HB.out)))); (case aL => have := LMc9.out; omega); intro v228 w16 ho hb hg hat; rw [← Ny227.out] at ho; have n0_ := Aside0.mk (hb); have n1_ := Aside0.mk (ho); clear HB; have HB := n0_; have HO229 := n1_; clear n0_ n1_; clear ho hb hg hat) | ((with_reducible refine gate_builtin (b := .append) (xs := #[.tmp 22, .tmp 24]) rfl ?_); (try (refine gate_guard (by rfl) ?_; dsimp only)); at_builtin; refine Kd.R_append (Kd.int .u8) (w0 := w) w.heap.size rfl (.tmp 22) (.tmp 24) 22 5 (.int .u8 0) 1 rfl Try.underlying22 info5 rfl (by decide) (by omega) v228 y227 a1 [.int .u8 a1] (fun _ => True) (fun _ => False) rfl rfl ?aP (fun _ hk => hk.elim) ?aF ?aO ?aB ?aS ?aL ?_; (case aP => exact rfl); (case aB => exact (by repeat (first | (with_reducible first | exact HB.out | apply below_alloc | apply pw_below_drewN | apply below_drew1) | exact HB.out))); (case aF => exact (fun _ _ => trivial)); (case aO => exact (by (with_reducible repeat (first | apply Kd.R_alloc | apply Kd.R_drewN | apply Kd.R_drew)); exact HO229.out)); (case aS => exact (below_size (by repeat (first | (with_reducible first | exact HB.out | apply below_alloc | apply pw_below_drewN | apply below_drew1) | exact HB.out)))); (case aL => have := LMc10.out; omega); intro v231 w17 ho hb hg hat; rw [← Ny230.out] at ho; have n0_ := Aside0.mk (hb); have n1_ := Aside0.mk (ho); clear HB; clear HO229; have HB := n0_; have HO232 := n1_; clear n0_ n1_; clear ho hb hg hat; obtain ⟨Ao18, co18, eo18⟩ := Kd.R_slice HO232.out; subst eo18) | ((with_reducible refine gate_callee (f := 11) rfl ?_); refine goesL_ (some 26) rfl rfl Try.func11 (by kernel_rfl) rfl #[.slice Ao18 y230.length co18] rfl (by (try simp only [List.map_toArray, List.map_cons, List.map_nil]); first | done | rfl | (simp only [List.length_drop, List.length_take]; rfl)) ?_; (with_reducible refine (adler_Sum.calls kj3 _ _ y230 t233 _ ?side1 ?side2 A11.out).mono ?_); (case side1 => repeat (first | exact (Kd.R_reads' HO232.out).2.2 | (with_reducible refine Kd.C_alloc ?_ _) | (with_reducible refine Kd.C_drewN ?_ _) | (with_reducible refine Kd.C_drew ?_))); (case side2 => exact (Kd.R_reads' HO232.out).2.1); rintro e w19 ⟨rfl, hb⟩; refine ⟨_, rfl, ?_⟩; have n0_ := Aside0.mk (Kd.R_below (by (with_reducible repeat (first | apply Kd.R_alloc | apply Kd.R_drewN | apply Kd.R_drew)); exact HO232.out) hb); have n1_ := Aside0.mk (below_step (by repeat (first | (with_reducible first | exact HB.out | apply below_alloc | apply pw_below_drewN | apply below_drew1) | exact HB.out)) hb); clear HO232; clear HB; have HO232 := n0_; have HB := n1_; clear n0_ n1_; (try clear hb); (try clear hb2); (try clear hk); (try clear hi)) | ((with_reducible refine gate_dst (N := 48) rfl ?_); (try (refine gate_guard (by rfl) ?_; dsimp only)); refine Kd.R_lit (Kd.int .u8) _ 5 ?hg (N := 48) ?hd (xs := ([a1] : List Int)) (inner := [.int .u8 a1]) (ok := fun _ => True) (okp := fun _ => True) ?hr ?hp (fun _ hk => hk) trivial (Below.refl _ _) (Nat.le_refl _) (by simp) ?_; (case hd => rfl); (case hg => rfl); (case hr => first | (go_simp; done) | (go_simp; rfl)); (case hp => exact (Reps.one (show Kd.M (Kd.int .u8) _ _ _ a1 [.int .u8 a1] from rfl) (Reps.none _ _))); intro v235 w20 ho21 hb hg_ hnew_; clear hg_ hnew_; (first | rw [← Ny234.out] at ho21 | (simp only [Int.reduceToNat] at ho21; rw [← Ny234.out] at ho21)); have n0_ := Aside0.mk (Kd.R_elder' (by (with_reducible repeat (first | apply Kd.R_alloc | apply Kd.R_drewN | apply Kd.R_drew)); exact HO232.out) (Kd.R_base ho21) hb); have n1_ := Aside0.mk (Kd.R_lower (Kd.R_new' ho21 (Kd.R_lt (by (with_reducible repeat (first | apply Kd.R_alloc | apply Kd.R_drewN | apply Kd.R_drew)); exact HO232.out))) (below_size (by repeat (first | (with_reducible first | exact HB.out | apply below_alloc | apply pw_below_drewN | apply below_drew1) | exact HB.out)))); have n2_ := Aside0.mk (below_step (by repeat (first | (with_reducible first | exact HB.out | apply below_alloc | apply pw_below_drewN | apply below_drew1) | exact HB.out)) hb); clear HO232; clear HB; have HO232 := n0_; have HO236 := n1_; have HB := n2_; clear n0_ n1_ n2_; clear hb ho21; obtain ⟨Ao22, co22, eo22⟩ := Kd.R_slice HO236.out; subst eo22) | (go_at_call 11; (with_reducible refine (adler_Sum.calls kj3 _ _ y234 t237 _ ?side1 ?side2 A13.out).mono ?_); (case side1 => repeat (first | exact (Kd.R_reads' HO236.out).2.2 | (with_reducible refine Kd.C_alloc ?_ _) | (with_reducible refine Kd.C_drewN ?_ _) | (with_reducible refine Kd.C_drew ?_))); (case side2 => exact (Kd.R_reads' HO236.out).2.1); rintro e w23 ⟨rfl, hb⟩; have n0_ := Aside0.mk (Kd.R_below (by (with_reducible repeat (first | apply Kd.R_alloc | apply Kd.R_drewN | apply Kd.R_drew)); exact HO232.out) hb); have n1_ := Aside0.mk (Kd.R_below (by (with_reducible repeat (first | apply Kd.R_alloc | apply Kd.R_drewN | apply Kd.R_drew)); exact HO236.out) hb); have n2_ := Aside0.mk (below_step (by repeat (first | (with_reducible first | exact HB.out | apply below_alloc | apply pw_below_drewN | apply below_drew1) | exact HB.out)) hb); clear HO232; clear HO236; clear HB; have HO232 := n0_; have HO236 := n1_; have HB := n2_; clear n0_ n1_ n2_; (try clear hb); (try clear hb2); (try clear hk); (try clear hi)) | (go_at_call 15; (with_reducible refine (adler_Join.calls kj3 t226 t237 1 t238 _ A14.out).mono ?_); rintro e w24 ⟨rfl, hb⟩; have n0_ := Aside0.mk (Kd.R_below (by (with_reducible repeat (first | apply Kd.R_alloc | apply Kd.R_drewN | apply Kd.R_drew)); exact HO232.out) hb); have n1_ := Aside0.mk (Kd.R_below (by (with_reducible repeat (first | apply Kd.R_alloc | apply Kd.R_drewN | apply Kd.R_drew)); exact HO236.out) hb); have n2_ := Aside0.mk (below_step (by repeat (first | (with_reducible first | exact HB.out | apply below_alloc | apply pw_below_drewN | apply below_drew1) | exact HB.out)) hb); clear HO232; clear HO236; clear HB; have HO232 := n0_; have HO236 := n1_; have HB := n2_; clear n0_ n1_ n2_; (try clear hb); (try clear hb2); (try clear hk); (try clear hi)))
              go_ret
              exact ⟨by first | rfl | (simp [errW_none, errW_some] <;> rfl) | (simp [*, errW_none, errW_some] <;> rfl), by repeat (first | (with_reducible first | exact HB.out | apply below_alloc | apply pw_below_drewN | apply below_drew1) | exact HB.out)⟩
            · rw [if_neg c12] at H
              have c12b0 : (t233 == (((((((Int.tdiv t226 65536) % 4294967296) + ((((Int.tmod t226 65536) + ((a1) % 4294967296)) % 4294967296) % 65521)) % 4294967296) % 65521) * 65536) + ((((Int.tmod t226 65536) + ((a1) % 4294967296)) % 4294967296) % 65521))) = false := beq_eq_false_iff_ne.mpr c12
              have c12b1 : (t233 != (((((((Int.tdiv t226 65536) % 4294967296) + ((((Int.tmod t226 65536) + ((a1) % 4294967296)) % 4294967296) % 65521)) % 4294967296) % 65521) * 65536) + ((((Int.tmod t226 65536) + ((a1) % 4294967296)) % 4294967296) % 65521))) = true := bne_iff_ne.mpr c12; simp only [Int.add_emod_emod, Int.emod_add_emod] at c12b0 c12b1
              obtain rfl := Option.some.inj H
              go_wp2_with (first | ((with_reducible refine gate_callee (f := 11) rfl ?_); refine goesL_ (some 20) rfl rfl Try.func11 (by kernel_rfl) rfl #[.slice A0 l0.length c0] rfl (by (try simp only [List.map_toArray, List.map_cons, List.map_nil]); first | done | rfl | (simp only [List.length_drop, List.length_take]; rfl)) ?_; (with_reducible refine (adler_Sum.calls kj3 _ _ l0 t226 _ ?side1 ?side2 A8.out).mono ?_); (case side1 => repeat (first | exact (Kd.C_below HR0.out HB.out) | (with_reducible refine Kd.C_alloc ?_ _) | (with_reducible refine Kd.C_drewN ?_ _) | (with_reducible refine Kd.C_drew ?_))); (case side2 => exact HC0.out); rintro e w25 ⟨rfl, hb⟩; refine ⟨_, rfl, ?_⟩; have n0_ := Aside0.mk (below_step (by repeat (first | (with_reducible first | exact HB.out | apply below_alloc | apply pw_below_drewN | apply below_drew1) | exact HB.out)) hb); clear HB; have HB := n0_; clear n0_; (try clear hb); (try clear hb2); (try clear hk); (try clear hi)) | ((with_reducible refine gate_builtin (b := .append) (xs := #[.const (.slice none 0 0), .tmp 21]) rfl ?_); (try (refine gate_guard (by rfl) ?_; dsimp only)); at_builtin; refine Kd.R_append_rows (Kd.int .u8) (w0 := w) w.heap.size rfl (.const (.slice none 0 0)) (.tmp 21) 22 5 (.int .u8 0) 1 rfl Try.underlying22 info5 rfl (by decide) (by omega) (.slice none 0 0) ([] : List Int) l0 _ _ _ (fun _ => True) (fun _ => False) rfl rfl ?aO ?aR (fun _ _ h => h) (fun _ h => h.elim) ?aF ?aB ?aS ?aL ?_; (case aR => repeat (first | exact (Kd.C_below HR0.out HB.out) | (with_reducible refine Kd.C_alloc ?_ _) | (with_reducible refine Kd.C_drewN ?_ _) | (with_reducible refine Kd.C_drew ?_))); (case aB => exact (by repeat (first | (with_reducible first | exact HB.out | apply below_alloc | apply pw_below_drewN | apply below_drew1) | exact HB.out))); (case aF => exact (fun _ _ => trivial)); (case aO => exact ((Kd.R_nil _ _ _ _ (fun _ => True)))); (case aS => exact (below_size (by repeat (first | (with_reducible first | exact HB.out | apply below_alloc | apply pw_below_drewN | apply below_drew1) | exact HB.out)))); (case aL => have := LMc9.out; omega); intro v228 w26 ho hb hg hat; rw [← Ny227.out] at ho; have n0_ := Aside0.mk (hb); have n1_ := Aside0.mk (ho); clear HB; have HB := n0_; have HO229 := n1_; clear n0_ n1_; clear ho hb hg hat) | ((with_reducible refine gate_builtin (b := .append) (xs := #[.tmp 22, .tmp 24]) rfl ?_); (try (refine gate_guard (by rfl) ?_; dsimp only)); at_builtin; refine Kd.R_append (Kd.int .u8) (w0 := w) w.heap.size rfl (.tmp 22) (.tmp 24) 22 5 (.int .u8 0) 1 rfl Try.underlying22 info5 rfl (by decide) (by omega) v228 y227 a1 [.int .u8 a1] (fun _ => True) (fun _ => False) rfl rfl ?aP (fun _ hk => hk.elim) ?aF ?aO ?aB ?aS ?aL ?_; (case aP => exact rfl); (case aB => exact (by repeat (first | (with_reducible first | exact HB.out | apply below_alloc | apply pw_below_drewN | apply below_drew1) | exact HB.out))); (case aF => exact (fun _ _ => trivial)); (case aO => exact (by (with_reducible repeat (first | apply Kd.R_alloc | apply Kd.R_drewN | apply Kd.R_drew)); exact HO229.out)); (case aS => exact (below_size (by repeat (first | (with_reducible first | exact HB.out | apply below_alloc | apply pw_below_drewN | apply below_drew1) | exact HB.out)))); (case aL => have := LMc10.out; omega); intro v231 w27 ho hb hg hat; rw [← Ny230.out] at ho; have n0_ := Aside0.mk (hb); have n1_ := Aside0.mk (ho); clear HB; clear HO229; have HB := n0_; have HO232 := n1_; clear n0_ n1_; clear ho hb hg hat; obtain ⟨Ao28, co28, eo28⟩ := Kd.R_slice HO232.out; subst eo28) | ((with_reducible refine gate_callee (f := 11) rfl ?_); refine goesL_ (some 26) rfl rfl Try.func11 (by kernel_rfl) rfl #[.slice Ao28 y230.length co28] rfl (by (try simp only [List.map_toArray, List.map_cons, List.map_nil]); first | done | rfl | (simp only [List.length_drop, List.length_take]; rfl)) ?_; (with_reducible refine (adler_Sum.calls kj3 _ _ y230 t233 _ ?side1 ?side2 A11.out).mono ?_); (case side1 => repeat (first | exact (Kd.R_reads' HO232.out).2.2 | (with_reducible refine Kd.C_alloc ?_ _) | (with_reducible refine Kd.C_drewN ?_ _) | (with_reducible refine Kd.C_drew ?_))); (case side2 => exact (Kd.R_reads' HO232.out).2.1); rintro e w29 ⟨rfl, hb⟩; refine ⟨_, rfl, ?_⟩; have n0_ := Aside0.mk (Kd.R_below (by (with_reducible repeat (first | apply Kd.R_alloc | apply Kd.R_drewN | apply Kd.R_drew)); exact HO232.out) hb); have n1_ := Aside0.mk (below_step (by repeat (first | (with_reducible first | exact HB.out | apply below_alloc | apply pw_below_drewN | apply below_drew1) | exact HB.out)) hb); clear HO232; clear HB; have HO232 := n0_; have HB := n1_; clear n0_ n1_; (try clear hb); (try clear hb2); (try clear hk); (try clear hi)))
              go_ret
              exact ⟨by first | rfl | (simp [errW_none, errW_some] <;> rfl) | (simp [*, errW_none, errW_some] <;> rfl), by repeat (first | (with_reducible first | exact HB.out | apply below_alloc | apply pw_below_drewN | apply below_drew1) | exact HB.out)⟩
          · rw [if_neg c10] at H
            exact absurd H (by simp)
        · rw [if_neg c9] at H
          exact absurd H (by simp)

/-- THE ONE PURE STATEMENT of colloquylaw02_AdlerZeros: yours. -/
def colloquylaw02_AdlerZeros.Pure : Prop := ∀ (l0 : List Int) (a1 : Int), l0.length ≤ maxLen → l0.length * 1 ≤ 140737488351232 → (∀ x ∈ l0, (Lit.int .u8 x).wf = true) → (Lit.int .u8 a1).wf = true → ∃ k, colloquylaw02_AdlerZeros.f k l0 a1 = some true
theorem colloquylaw02_AdlerZeros.walk (P : colloquylaw02_AdlerZeros.Pure) (a0 : Option Addr) (len0 cap0 : Nat) (z0 : List Int) (a1 : Int) (w : World) (w0 : (a0 = none ∧ len0 = 0 ∧ cap0 = 0 ∧ z0 = []) ∨ ∃ x, a0 = some x ∧ len0 ≤ cap0 ∧ cap0 ≤ maxLen ∧ z0.length = cap0 ∧ (∀ i, i < z0.length → w.cell? (x.add i) = some (.int .u8 (z0.getD i 0))) ∧ ∀ n ∈ z0, (Lit.int .u8 n).wf = true) (y0 : len0 * 1 ≤ 140737488351232) (w1 : (Lit.int .u8 a1).wf = true) :
    Calls Try.prog 7 #[.slice a0 len0 cap0, .int .u8 a1] w fun e w' => e = .returned (.bool true) ∧ Below w.heap.size w w' := by
  obtain ⟨l0, rfl, hr0, hm0, hw0, hc0⟩ := ReadsInt.ofRowC w0
  obtain ⟨k, h⟩ := P l0 a1 hm0 y0 hw0 w1
  refine (colloquylaw02_AdlerZeros.calls k _ _ l0 a1 true w (Kd.C_of_reads (d := (0 : Int)) (h1 := fun _ => rfl) hr0) hc0 h).mono ?_
  rintro e w' ⟨rfl, hd⟩
  exact ⟨rfl, hd⟩

/-! ### colloquylaw02_AdlerOne: function 8 -/
def colloquylaw02_AdlerOne.j0 : Nat → Int → Int → Bool → Bool → Option (Bool)
  | 0, _, _, _, _ => none
  | k + 1, x0, x1, x5, x21 => if x21 = true then (some x5) else ((adler_Join.f k x0 1 0).bind fun t241 => (if t241 = x0 then ((adler_Join.f k 1 x0 x1).bind fun t242 => (some (t242 == x0))) else (some false)))
def colloquylaw02_AdlerOne.f (k : Nat) (a0 : Int) (a1 : Int) : Option (Bool) := (colloquylaw02_awake.f k).bind fun t239 => (if t239 = true then ((adler_May.f k a0).bind fun t240 => (if t240 = true then (if a1 < 0 then (colloquylaw02_AdlerOne.j0 k a0 a1 t239 true) else (colloquylaw02_AdlerOne.j0 k a0 a1 t239 (decide (a1 > 1073741824)))) else (colloquylaw02_AdlerOne.j0 k a0 a1 t239 true))) else (colloquylaw02_AdlerOne.j0 k a0 a1 t239 true))
theorem colloquylaw02_AdlerOne.mono_l : ∀ k, (∀ y0 y1 y2 y3, LeO (colloquylaw02_AdlerOne.j0 k y0 y1 y2 y3) (colloquylaw02_AdlerOne.j0 (k + 1) y0 y1 y2 y3))
  | 0 => fun _ _ _ _ r h => by simp [colloquylaw02_AdlerOne.j0] at h
  | k + 1 => by
    have ih0 := colloquylaw02_AdlerOne.mono_l k
    · intro y0 y1 y2 y3
      unfold colloquylaw02_AdlerOne.j0
      repeat' first
      | (with_reducible exact ih0 _ _ _ _)
      | (with_reducible exact adler_Join.mono _ _ _ _)
      | (with_reducible exact adler_May.mono _ _)
      | (with_reducible exact colloquylaw02_awake.mono _)
      | (with_reducible exact LeO.refl _)
      | (with_reducible exact LeO.none _)
      | (with_reducible refine LeO.ite ?_ ?_)
      | (with_reducible refine LeO.bind ?_ (fun _ => ?_))
      | exact ih0 _ _ _ _
      | exact adler_Join.mono _ _ _ _
      | exact adler_May.mono _ _
      | exact colloquylaw02_awake.mono _
      | exact LeO.none _
      | refine LeO.ite ?_ ?_
      | refine LeO.bind ?_ (fun _ => ?_)
theorem colloquylaw02_AdlerOne.mono : ∀ a0 a1 k, LeO (colloquylaw02_AdlerOne.f k a0 a1) (colloquylaw02_AdlerOne.f (k + 1) a0 a1) := by
  intro a0 a1 k
  have ih0 := colloquylaw02_AdlerOne.mono_l k
  unfold colloquylaw02_AdlerOne.f
  repeat' first
      | (with_reducible exact ih0 _ _ _ _)
      | (with_reducible exact adler_Join.mono _ _ _ _)
      | (with_reducible exact adler_May.mono _ _)
      | (with_reducible exact colloquylaw02_awake.mono _)
      | (with_reducible exact LeO.refl _)
      | (with_reducible exact LeO.none _)
      | (with_reducible refine LeO.ite ?_ ?_)
      | (with_reducible refine LeO.bind ?_ (fun _ => ?_))
      | exact ih0 _ _ _ _
      | exact adler_Join.mono _ _ _ _
      | exact adler_May.mono _ _
      | exact colloquylaw02_awake.mono _
      | exact LeO.none _
      | refine LeO.ite ?_ ?_
      | refine LeO.bind ?_ (fun _ => ?_)
set_option maxHeartbeats 8000000 in
set_option maxRecDepth 100000 in
theorem colloquylaw02_AdlerOne.calls (k : Nat) (a0 : Int) (a1 : Int) (r : Bool) (w : World) (h : colloquylaw02_AdlerOne.f k a0 a1 = some r) :
    Calls Try.prog 8 #[.int .u32 a0, .int .i64 a1] w fun e w' => e = .returned (.bool r) ∧ Below w.heap.size w w' := by
  have HB := Aside0.mk (Below.refl w.heap.size w)
  have H : ((colloquylaw02_awake.f k).bind fun t239 => (if t239 = true then ((adler_May.f k a0).bind fun t240 => (if t240 = true then (if a1 < 0 then (colloquylaw02_AdlerOne.j0 k a0 a1 t239 true) else (colloquylaw02_AdlerOne.j0 k a0 a1 t239 (decide (a1 > 1073741824)))) else (colloquylaw02_AdlerOne.j0 k a0 a1 t239 true))) else (colloquylaw02_AdlerOne.j0 k a0 a1 t239 true))) = some r := h
  clear h
  replace H := Option.bind_eq_some_iff.mp H
  obtain ⟨t239, A30, H⟩ := H
  replace H : (if t239 = true then ((adler_May.f k a0).bind fun t240 => (if t240 = true then (if a1 < 0 then (colloquylaw02_AdlerOne.j0 k a0 a1 t239 true) else (colloquylaw02_AdlerOne.j0 k a0 a1 t239 (decide (a1 > 1073741824)))) else (colloquylaw02_AdlerOne.j0 k a0 a1 t239 true))) else (colloquylaw02_AdlerOne.j0 k a0 a1 t239 true)) = some r := H
  have A3 := Aside0.mk A30
  clear A30
  have HC4 := Aside0.mk H
  clear H
  go_enter Try.func8, Try.ntmps8
  go_upto_region 2 with (first | ((with_reducible refine gate_callee (f := 10) rfl ?_); refine goesL_ (some 6) rfl rfl Try.func10 (by kernel_rfl) rfl #[] rfl (by (try simp only [List.map_toArray, List.map_cons, List.map_nil]); first | done | rfl | (simp only [List.length_drop, List.length_take]; rfl)) ?_; (with_reducible refine (colloquylaw02_awake.calls k  t239 _ A3.out).mono ?_); rintro e w5 ⟨rfl, hb⟩; refine ⟨_, rfl, ?_⟩; have n0_ := Aside0.mk (below_step (by repeat (first | (with_reducible first | exact HB.out | apply below_alloc | apply pw_below_drewN | apply below_drew1) | exact HB.out)) hb); clear HB; have HB := n0_; clear n0_; (try clear hb); (try clear hb2); (try clear hk); (try clear hi)))
  (try simp only [Act.put, List.setIfInBounds_toArray, List.set_cons_zero, List.set_cons_succ])
  go_cut [21] (fun v21 wc => ∃ (kq : Nat) (x21_3 : Bool), v21 = .bool x21_3 ∧ Aside0 (colloquylaw02_AdlerOne.j0 kq a0 a1 t239 x21_3 = some r) ∧ Aside0 (kq ≤ k) ∧ Aside0 (Below w.heap.size w wc))
  case first =>
    have H := HC4.out
    clear HC4
    by_cases c6 : t239 = true
    · subst c6
      have H1 : ((adler_May.f k a0).bind fun t240 => (if t240 = true then (if a1 < 0 then (colloquylaw02_AdlerOne.j0 k a0 a1 true true) else (colloquylaw02_AdlerOne.j0 k a0 a1 true (decide (a1 > 1073741824)))) else (colloquylaw02_AdlerOne.j0 k a0 a1 true true))) = some r := by rw [if_pos rfl] at H; exact H
      clear H
      have H := H1
      clear H1
      replace H := Option.bind_eq_some_iff.mp H
      obtain ⟨t240, A70, H⟩ := H
      replace H : (if t240 = true then (if a1 < 0 then (colloquylaw02_AdlerOne.j0 k a0 a1 true true) else (colloquylaw02_AdlerOne.j0 k a0 a1 true (decide (a1 > 1073741824)))) else (colloquylaw02_AdlerOne.j0 k a0 a1 true true)) = some r := H
      have A7 := Aside0.mk A70
      clear A70
      by_cases c8 : t240 = true
      · subst c8
        have H1 : (if a1 < 0 then (colloquylaw02_AdlerOne.j0 k a0 a1 true true) else (colloquylaw02_AdlerOne.j0 k a0 a1 true (decide (a1 > 1073741824)))) = some r := by rw [if_pos rfl] at H; exact H
        clear H
        have H := H1
        clear H1
        by_cases c9 : a1 < 0
        · rw [if_pos c9] at H
          have c9b0 : decide (a1 < 0) = true := decide_eq_true c9
          clear c9
          (first | rw [c9b0] | (simp only [i64_w, i32_w]; rw [c9b0]) | skip)
          have H' := Aside0.mk H
          clear H
          go_wp2_with (first | (go_at_call 13; (with_reducible refine (adler_May.calls k a0 true _ A7.out).mono ?_); rintro e w10 ⟨rfl, hb⟩; have n0_ := Aside0.mk (below_step (by repeat (first | (with_reducible first | exact HB.out | apply below_alloc | apply pw_below_drewN | apply below_drew1) | exact HB.out)) hb); clear HB; have HB := n0_; clear n0_; (try clear hb); (try clear hb2); (try clear hk); (try clear hi)))
          go_meet
          case rel => exact ⟨_, (true), (by first | rfl | (simp; done) | (simp [*]; done)), H', ⟨by first | omega | exact Nat.le_refl _⟩, ⟨by repeat (first | (with_reducible first | exact HB.out | apply below_alloc | apply pw_below_drewN | apply below_drew1) | exact HB.out)⟩⟩
        · rw [if_neg c9] at H
          have c9b0 : decide (a1 < 0) = false := decide_eq_false c9
          clear c9
          (first | rw [c9b0] | (simp only [i64_w, i32_w]; rw [c9b0]) | skip)
          have H' := Aside0.mk H
          clear H
          go_wp2_with (first | (go_at_call 13; (with_reducible refine (adler_May.calls k a0 true _ A7.out).mono ?_); rintro e w11 ⟨rfl, hb⟩; have n0_ := Aside0.mk (below_step (by repeat (first | (with_reducible first | exact HB.out | apply below_alloc | apply pw_below_drewN | apply below_drew1) | exact HB.out)) hb); clear HB; have HB := n0_; clear n0_; (try clear hb); (try clear hb2); (try clear hk); (try clear hi)))
          go_meet
          case rel => exact ⟨_, (decide (a1 > 1073741824)), (by first | rfl | (simp; done) | (simp [*]; done)), H', ⟨by first | omega | exact Nat.le_refl _⟩, ⟨by repeat (first | (with_reducible first | exact HB.out | apply below_alloc | apply pw_below_drewN | apply below_drew1) | exact HB.out)⟩⟩
      · replace c8 := Bool.eq_false_iff.mpr c8
        subst c8
        have H1 : (colloquylaw02_AdlerOne.j0 k a0 a1 true true) = some r := by rw [if_neg (show ¬ (false = true) by decide)] at H; exact H
        clear H
        have H := H1
        clear H1
        have H' := Aside0.mk H
        clear H
        go_wp2_with (first | (go_at_call 13; (with_reducible refine (adler_May.calls k a0 false _ A7.out).mono ?_); rintro e w12 ⟨rfl, hb⟩; have n0_ := Aside0.mk (below_step (by repeat (first | (with_reducible first | exact HB.out | apply below_alloc | apply pw_below_drewN | apply below_drew1) | exact HB.out)) hb); clear HB; have HB := n0_; clear n0_; (try clear hb); (try clear hb2); (try clear hk); (try clear hi)))
        go_meet
        case rel => exact ⟨_, (true), (by first | rfl | (simp; done) | (simp [*]; done)), H', ⟨by first | omega | exact Nat.le_refl _⟩, ⟨by repeat (first | (with_reducible first | exact HB.out | apply below_alloc | apply pw_below_drewN | apply below_drew1) | exact HB.out)⟩⟩
    · replace c6 := Bool.eq_false_iff.mpr c6
      subst c6
      have H1 : (colloquylaw02_AdlerOne.j0 k a0 a1 false true) = some r := by rw [if_neg (show ¬ (false = true) by decide)] at H; exact H
      clear H
      have H := H1
      clear H1
      have H' := Aside0.mk H
      clear H
      go_wp2
      go_meet
      case rel => exact ⟨_, (true), (by first | rfl | (simp; done) | (simp [*]; done)), H', ⟨by first | omega | exact Nat.le_refl _⟩, ⟨by repeat (first | (with_reducible first | exact HB.out | apply below_alloc | apply pw_below_drewN | apply below_drew1) | exact HB.out)⟩⟩
  case rest =>
    clear HC4
    try clear c1
    try clear p2
    try clear c6
    try clear c8
    try clear c9
    try clear c9b0
    try clear c10
    obtain ⟨kq, x21_3, rfl, HA, HJ3, HB⟩ := hcut
    cases kq with
    | zero => exact absurd HA.out (by simp [colloquylaw02_AdlerOne.j0])
    | succ kj3 =>
      have H := HA.out
      clear HA
      simp only [colloquylaw02_AdlerOne.j0] at H
      by_cases c13 : x21_3 = true
      · subst c13
        have H1 : (some t239) = some r := by rw [if_pos rfl] at H; exact H
        clear H
        have H := H1
        clear H1
        obtain rfl := Option.some.inj H
        go_wp2
        go_ret
        exact ⟨by first | rfl | (simp [errW_none, errW_some] <;> rfl) | (simp [*, errW_none, errW_some] <;> rfl), by repeat (first | (with_reducible first | exact HB.out | apply below_alloc | apply pw_below_drewN | apply below_drew1) | exact HB.out)⟩
      · replace c13 := Bool.eq_false_iff.mpr c13
        subst c13
        have H1 : ((adler_Join.f kj3 a0 1 0).bind fun t241 => (if t241 = a0 then ((adler_Join.f kj3 1 a0 a1).bind fun t242 => (some (t242 == a0))) else (some false))) = some r := by rw [if_neg (show ¬ (false = true) by decide)] at H; exact H
        clear H
        have H := H1
        clear H1
        replace H := Option.bind_eq_some_iff.mp H
        obtain ⟨t241, A140, H⟩ := H
        replace H : (if t241 = a0 then ((adler_Join.f kj3 1 a0 a1).bind fun t242 => (some (t242 == a0))) else (some false)) = some r := H
        have A14 := Aside0.mk A140
        clear A140
        by_cases c15 : t241 = a0
        · rw [if_pos c15] at H
          have c15b0 : (t241 == a0) = true := beq_iff_eq.mpr c15
          have c15b1 : (t241 != a0) = false := bne_eq_false_iff_eq.mpr c15
          clear c15
          replace H := Option.bind_eq_some_iff.mp H
          obtain ⟨t242, A160, H⟩ := H
          replace H : (some (t242 == a0)) = some r := H
          have A16 := Aside0.mk A160
          clear A160
          obtain rfl := Option.some.inj H
          go_wp2_with (first | ((with_reducible refine gate_callee (f := 15) rfl ?_); refine goesL_ (some 24) rfl rfl Try.func15 (by kernel_rfl) rfl #[.int .u32 a0, .int .u32 1, .int .i64 0] rfl (by (try simp only [List.map_toArray, List.map_cons, List.map_nil]); first | done | rfl | (simp only [List.length_drop, List.length_take]; rfl)) ?_; (with_reducible refine (adler_Join.calls kj3 a0 1 0 t241 _ A14.out).mono ?_); rintro e w17 ⟨rfl, hb⟩; refine ⟨_, rfl, ?_⟩; have n0_ := Aside0.mk (below_step (by repeat (first | (with_reducible first | exact HB.out | apply below_alloc | apply pw_below_drewN | apply below_drew1) | exact HB.out)) hb); clear HB; have HB := n0_; clear n0_; (try clear hb); (try clear hb2); (try clear hk); (try clear hi)) | (go_at_call 15; (with_reducible refine (adler_Join.calls kj3 1 a0 a1 t242 _ A16.out).mono ?_); rintro e w18 ⟨rfl, hb⟩; have n0_ := Aside0.mk (below_step (by repeat (first | (with_reducible first | exact HB.out | apply below_alloc | apply pw_below_drewN | apply below_drew1) | exact HB.out)) hb); clear HB; have HB := n0_; clear n0_; (try clear hb); (try clear hb2); (try clear hk); (try clear hi)))
          go_ret
          exact ⟨by first | rfl | (simp [errW_none, errW_some] <;> rfl) | (simp [*, errW_none, errW_some] <;> rfl), by repeat (first | (with_reducible first | exact HB.out | apply below_alloc | apply pw_below_drewN | apply below_drew1) | exact HB.out)⟩
        · rw [if_neg c15] at H
          have c15b0 : (t241 == a0) = false := beq_eq_false_iff_ne.mpr c15
          have c15b1 : (t241 != a0) = true := bne_iff_ne.mpr c15
          obtain rfl := Option.some.inj H
          go_wp2_with (first | ((with_reducible refine gate_callee (f := 15) rfl ?_); refine goesL_ (some 24) rfl rfl Try.func15 (by kernel_rfl) rfl #[.int .u32 a0, .int .u32 1, .int .i64 0] rfl (by (try simp only [List.map_toArray, List.map_cons, List.map_nil]); first | done | rfl | (simp only [List.length_drop, List.length_take]; rfl)) ?_; (with_reducible refine (adler_Join.calls kj3 a0 1 0 t241 _ A14.out).mono ?_); rintro e w19 ⟨rfl, hb⟩; refine ⟨_, rfl, ?_⟩; have n0_ := Aside0.mk (below_step (by repeat (first | (with_reducible first | exact HB.out | apply below_alloc | apply pw_below_drewN | apply below_drew1) | exact HB.out)) hb); clear HB; have HB := n0_; clear n0_; (try clear hb); (try clear hb2); (try clear hk); (try clear hi)))
          go_ret
          exact ⟨by first | rfl | (simp [errW_none, errW_some] <;> rfl) | (simp [*, errW_none, errW_some] <;> rfl), by repeat (first | (with_reducible first | exact HB.out | apply below_alloc | apply pw_below_drewN | apply below_drew1) | exact HB.out)⟩

/-- THE ONE PURE STATEMENT of colloquylaw02_AdlerOne: yours. -/
def colloquylaw02_AdlerOne.Pure : Prop := ∀ (a0 : Int) (a1 : Int), (Lit.int .u32 a0).wf = true → (Lit.int .i64 a1).wf = true → ∃ k, colloquylaw02_AdlerOne.f k a0 a1 = some true
theorem colloquylaw02_AdlerOne.walk (P : colloquylaw02_AdlerOne.Pure) (a0 : Int) (a1 : Int) (w : World) (w0 : (Lit.int .u32 a0).wf = true) (w1 : (Lit.int .i64 a1).wf = true) :
    Calls Try.prog 8 #[.int .u32 a0, .int .i64 a1] w fun e w' => e = .returned (.bool true) ∧ Below w.heap.size w w' := by
  obtain ⟨k, h⟩ := P a0 a1 w0 w1
  refine (colloquylaw02_AdlerOne.calls k a0 a1 true w h).mono ?_
  rintro e w' ⟨rfl, hd⟩
  exact ⟨rfl, hd⟩

/-! ### colloquyref02_Join: function 17 -/
def colloquyref02_Join.f (a0 : Int) (a1 : Int) (a2 : Int) : Option (Int) := if a2 < 0 then ((colloquyref02_modulo.f 0).bind fun t243 => ((colloquyref02_modulo.f (wrap64 ((wrap64 (Int.tmod a0 65536)) - 1))).bind fun t244 => ((colloquyref02_whole.f (wrap64 ((wrap64 ((wrap64 (Int.tmod a0 65536)) + (wrap64 (Int.tmod a1 65536)))) - 1)) (wrap64 ((((Int.tdiv a0 65536) % 4294967296) + ((Int.tdiv a1 65536) % 4294967296)) + (wrap64 (t243 * t244))))).bind fun t245 => (some t245)))) else ((colloquyref02_modulo.f a2).bind fun t246 => ((colloquyref02_modulo.f (wrap64 ((wrap64 (Int.tmod a0 65536)) - 1))).bind fun t247 => ((colloquyref02_whole.f (wrap64 ((wrap64 ((wrap64 (Int.tmod a0 65536)) + (wrap64 (Int.tmod a1 65536)))) - 1)) (wrap64 ((((Int.tdiv a0 65536) % 4294967296) + ((Int.tdiv a1 65536) % 4294967296)) + (wrap64 (t246 * t247))))).bind fun t248 => (some t248))))
set_option maxHeartbeats 8000000 in
set_option maxRecDepth 100000 in
theorem colloquyref02_Join.calls (a0 : Int) (a1 : Int) (a2 : Int) (r : Int) (w : World) (h : colloquyref02_Join.f a0 a1 a2 = some r) :
    Calls Try.prog 17 #[.int .u32 a0, .int .u32 a1, .int .i64 a2] w fun e w' => e = .returned (.int .u32 r) ∧ Drawn0 w w' := by
  have H : (if a2 < 0 then ((colloquyref02_modulo.f 0).bind fun t243 => ((colloquyref02_modulo.f (wrap64 ((wrap64 (Int.tmod a0 65536)) - 1))).bind fun t244 => ((colloquyref02_whole.f (wrap64 ((wrap64 ((wrap64 (Int.tmod a0 65536)) + (wrap64 (Int.tmod a1 65536)))) - 1)) (wrap64 ((((Int.tdiv a0 65536) % 4294967296) + ((Int.tdiv a1 65536) % 4294967296)) + (wrap64 (t243 * t244))))).bind fun t245 => (some t245)))) else ((colloquyref02_modulo.f a2).bind fun t246 => ((colloquyref02_modulo.f (wrap64 ((wrap64 (Int.tmod a0 65536)) - 1))).bind fun t247 => ((colloquyref02_whole.f (wrap64 ((wrap64 ((wrap64 (Int.tmod a0 65536)) + (wrap64 (Int.tmod a1 65536)))) - 1)) (wrap64 ((((Int.tdiv a0 65536) % 4294967296) + ((Int.tdiv a1 65536) % 4294967296)) + (wrap64 (t246 * t247))))).bind fun t248 => (some t248))))) = some r := h
  clear h
  by_cases c4 : a2 < 0
  · rw [if_pos c4] at H
    have c4b0 : decide (a2 < 0) = true := decide_eq_true c4
    clear c4
    replace H := Option.bind_eq_some_iff.mp H
    obtain ⟨t243, A50, H⟩ := H
    replace H : ((colloquyref02_modulo.f (wrap64 ((wrap64 (Int.tmod a0 65536)) - 1))).bind fun t244 => ((colloquyref02_whole.f (wrap64 ((wrap64 ((wrap64 (Int.tmod a0 65536)) + (wrap64 (Int.tmod a1 65536)))) - 1)) (wrap64 ((((Int.tdiv a0 65536) % 4294967296) + ((Int.tdiv a1 65536) % 4294967296)) + (wrap64 (t243 * t244))))).bind fun t245 => (some t245))) = some r := H
    have A5 := Aside0.mk A50
    clear A50
    replace H := Option.bind_eq_some_iff.mp H
    obtain ⟨t244, A60, H⟩ := H
    replace H : ((colloquyref02_whole.f (wrap64 ((wrap64 ((wrap64 (Int.tmod a0 65536)) + (wrap64 (Int.tmod a1 65536)))) - 1)) (wrap64 ((((Int.tdiv a0 65536) % 4294967296) + ((Int.tdiv a1 65536) % 4294967296)) + (wrap64 (t243 * t244))))).bind fun t245 => (some t245)) = some r := H
    have A6 := Aside0.mk A60
    clear A60
    replace H := Option.bind_eq_some_iff.mp H
    obtain ⟨t245, A70, H⟩ := H
    replace H : (some t245) = some r := H
    have A7 := Aside0.mk A70
    clear A70
    obtain rfl := Option.some.inj H
    go_enter Try.func17, Try.ntmps17
    go_wp2_with (first | ((with_reducible refine gate_callee (f := 21) rfl ?_); refine goesL_ (some 33) rfl rfl Try.func21 (by kernel_rfl) rfl #[.int .i64 0] rfl (by (try simp only [List.map_toArray, List.map_cons, List.map_nil]); first | done | rfl | (simp only [List.length_drop, List.length_take]; rfl)) ?_; (with_reducible refine (colloquyref02_modulo.calls 0 t243 _ A5.out).mono ?_); rintro e w' ⟨rfl, ⟨nd, rfl⟩⟩; refine ⟨_, rfl, ?_⟩) | ((with_reducible refine gate_callee (f := 21) rfl ?_); refine goesL_ (some 36) rfl rfl Try.func21 (by kernel_rfl) rfl #[.int .i64 (wrap64 ((wrap64 (Int.tmod a0 65536)) - 1))] rfl (by (try simp only [List.map_toArray, List.map_cons, List.map_nil]); first | done | rfl | (simp only [List.length_drop, List.length_take]; rfl)) ?_; (with_reducible refine (colloquyref02_modulo.calls (wrap64 ((wrap64 (Int.tmod a0 65536)) - 1)) t244 _ A6.out).mono ?_); rintro e w' ⟨rfl, ⟨nd, rfl⟩⟩; refine ⟨_, rfl, ?_⟩) | ((with_reducible refine gate_callee (f := 22) rfl ?_); refine goesL_ (some 39) rfl rfl Try.func22 (by kernel_rfl) rfl #[.int .i64 (wrap64 ((wrap64 ((wrap64 (Int.tmod a0 65536)) + (wrap64 (Int.tmod a1 65536)))) - 1)), .int .i64 (wrap64 ((((Int.tdiv a0 65536) % 4294967296) + ((Int.tdiv a1 65536) % 4294967296)) + (wrap64 (t243 * t244))))] rfl (by (try simp only [List.map_toArray, List.map_cons, List.map_nil]); first | done | rfl | (simp only [List.length_drop, List.length_take]; rfl)) ?_; (with_reducible refine (colloquyref02_whole.calls (wrap64 ((wrap64 ((wrap64 (Int.tmod a0 65536)) + (wrap64 (Int.tmod a1 65536)))) - 1)) (wrap64 ((((Int.tdiv a0 65536) % 4294967296) + ((Int.tdiv a1 65536) % 4294967296)) + (wrap64 (t243 * t244)))) t245 _ A7.out).mono ?_); rintro e w' ⟨rfl, ⟨nd, rfl⟩⟩; refine ⟨_, rfl, ?_⟩))
    go_ret
    exact ⟨by first | rfl | (simp; done) | (simp [*]; done), by repeat (first | exact Drawn0.refl _ | apply Drawn0.step)⟩
  · rw [if_neg c4] at H
    have c4b0 : decide (a2 < 0) = false := decide_eq_false c4
    clear c4
    replace H := Option.bind_eq_some_iff.mp H
    obtain ⟨t246, A80, H⟩ := H
    replace H : ((colloquyref02_modulo.f (wrap64 ((wrap64 (Int.tmod a0 65536)) - 1))).bind fun t247 => ((colloquyref02_whole.f (wrap64 ((wrap64 ((wrap64 (Int.tmod a0 65536)) + (wrap64 (Int.tmod a1 65536)))) - 1)) (wrap64 ((((Int.tdiv a0 65536) % 4294967296) + ((Int.tdiv a1 65536) % 4294967296)) + (wrap64 (t246 * t247))))).bind fun t248 => (some t248))) = some r := H
    have A8 := Aside0.mk A80
    clear A80
    replace H := Option.bind_eq_some_iff.mp H
    obtain ⟨t247, A90, H⟩ := H
    replace H : ((colloquyref02_whole.f (wrap64 ((wrap64 ((wrap64 (Int.tmod a0 65536)) + (wrap64 (Int.tmod a1 65536)))) - 1)) (wrap64 ((((Int.tdiv a0 65536) % 4294967296) + ((Int.tdiv a1 65536) % 4294967296)) + (wrap64 (t246 * t247))))).bind fun t248 => (some t248)) = some r := H
    have A9 := Aside0.mk A90
    clear A90
    replace H := Option.bind_eq_some_iff.mp H
    obtain ⟨t248, A100, H⟩ := H
    replace H : (some t248) = some r := H
    have A10 := Aside0.mk A100
    clear A100
    obtain rfl := Option.some.inj H
    go_enter Try.func17, Try.ntmps17
    go_wp2_with (first | ((with_reducible refine gate_callee (f := 21) rfl ?_); refine goesL_ (some 33) rfl rfl Try.func21 (by kernel_rfl) rfl #[.int .i64 a2] rfl (by (try simp only [List.map_toArray, List.map_cons, List.map_nil]); first | done | rfl | (simp only [List.length_drop, List.length_take]; rfl)) ?_; (with_reducible refine (colloquyref02_modulo.calls a2 t246 _ A8.out).mono ?_); rintro e w' ⟨rfl, ⟨nd, rfl⟩⟩; refine ⟨_, rfl, ?_⟩) | ((with_reducible refine gate_callee (f := 21) rfl ?_); refine goesL_ (some 36) rfl rfl Try.func21 (by kernel_rfl) rfl #[.int .i64 (wrap64 ((wrap64 (Int.tmod a0 65536)) - 1))] rfl (by (try simp only [List.map_toArray, List.map_cons, List.map_nil]); first | done | rfl | (simp only [List.length_drop, List.length_take]; rfl)) ?_; (with_reducible refine (colloquyref02_modulo.calls (wrap64 ((wrap64 (Int.tmod a0 65536)) - 1)) t247 _ A9.out).mono ?_); rintro e w' ⟨rfl, ⟨nd, rfl⟩⟩; refine ⟨_, rfl, ?_⟩) | ((with_reducible refine gate_callee (f := 22) rfl ?_); refine goesL_ (some 39) rfl rfl Try.func22 (by kernel_rfl) rfl #[.int .i64 (wrap64 ((wrap64 ((wrap64 (Int.tmod a0 65536)) + (wrap64 (Int.tmod a1 65536)))) - 1)), .int .i64 (wrap64 ((((Int.tdiv a0 65536) % 4294967296) + ((Int.tdiv a1 65536) % 4294967296)) + (wrap64 (t246 * t247))))] rfl (by (try simp only [List.map_toArray, List.map_cons, List.map_nil]); first | done | rfl | (simp only [List.length_drop, List.length_take]; rfl)) ?_; (with_reducible refine (colloquyref02_whole.calls (wrap64 ((wrap64 ((wrap64 (Int.tmod a0 65536)) + (wrap64 (Int.tmod a1 65536)))) - 1)) (wrap64 ((((Int.tdiv a0 65536) % 4294967296) + ((Int.tdiv a1 65536) % 4294967296)) + (wrap64 (t246 * t247)))) t248 _ A10.out).mono ?_); rintro e w' ⟨rfl, ⟨nd, rfl⟩⟩; refine ⟨_, rfl, ?_⟩))
    go_ret
    exact ⟨by first | rfl | (simp; done) | (simp [*]; done), by repeat (first | exact Drawn0.refl _ | apply Drawn0.step)⟩

/-! ### colloquyref02_Drop: function 18 -/
def colloquyref02_Drop.f (a0 : Int) (a1 : Int) (a2 : Int) : Option (Int) := if a2 < 0 then ((colloquyref02_modulo.f 0).bind fun t249 => ((colloquyref02_modulo.f (wrap64 (t249 + 1))).bind fun t250 => ((colloquyref02_whole.f (wrap64 ((wrap64 (Int.tmod a0 65536)) - (wrap64 (a1)))) (wrap64 ((((Int.tdiv a0 65536) % 4294967296) - 1) - (wrap64 (t250 * (wrap64 (a1))))))).bind fun t251 => (some t251)))) else ((colloquyref02_modulo.f a2).bind fun t252 => ((colloquyref02_modulo.f (wrap64 (t252 + 1))).bind fun t253 => ((colloquyref02_whole.f (wrap64 ((wrap64 (Int.tmod a0 65536)) - (wrap64 (a1)))) (wrap64 ((((Int.tdiv a0 65536) % 4294967296) - 1) - (wrap64 (t253 * (wrap64 (a1))))))).bind fun t254 => (some t254))))
set_option maxHeartbeats 8000000 in
set_option maxRecDepth 100000 in
theorem colloquyref02_Drop.calls (a0 : Int) (a1 : Int) (a2 : Int) (r : Int) (w : World) (h : colloquyref02_Drop.f a0 a1 a2 = some r) :
    Calls Try.prog 18 #[.int .u32 a0, .int .u8 a1, .int .i64 a2] w fun e w' => e = .returned (.int .u32 r) ∧ Drawn0 w w' := by
  have H : (if a2 < 0 then ((colloquyref02_modulo.f 0).bind fun t249 => ((colloquyref02_modulo.f (wrap64 (t249 + 1))).bind fun t250 => ((colloquyref02_whole.f (wrap64 ((wrap64 (Int.tmod a0 65536)) - (wrap64 (a1)))) (wrap64 ((((Int.tdiv a0 65536) % 4294967296) - 1) - (wrap64 (t250 * (wrap64 (a1))))))).bind fun t251 => (some t251)))) else ((colloquyref02_modulo.f a2).bind fun t252 => ((colloquyref02_modulo.f (wrap64 (t252 + 1))).bind fun t253 => ((colloquyref02_whole.f (wrap64 ((wrap64 (Int.tmod a0 65536)) - (wrap64 (a1)))) (wrap64 ((((Int.tdiv a0 65536) % 4294967296) - 1) - (wrap64 (t253 * (wrap64 (a1))))))).bind fun t254 => (some t254))))) = some r := h
  clear h
  by_cases c4 : a2 < 0
  · rw [if_pos c4] at H
    have c4b0 : decide (a2 < 0) = true := decide_eq_true c4
    clear c4
    replace H := Option.bind_eq_some_iff.mp H
    obtain ⟨t249, A50, H⟩ := H
    replace H : ((colloquyref02_modulo.f (wrap64 (t249 + 1))).bind fun t250 => ((colloquyref02_whole.f (wrap64 ((wrap64 (Int.tmod a0 65536)) - (wrap64 (a1)))) (wrap64 ((((Int.tdiv a0 65536) % 4294967296) - 1) - (wrap64 (t250 * (wrap64 (a1))))))).bind fun t251 => (some t251))) = some r := H
    have A5 := Aside0.mk A50
    clear A50
    replace H := Option.bind_eq_some_iff.mp H
    obtain ⟨t250, A60, H⟩ := H
    replace H : ((colloquyref02_whole.f (wrap64 ((wrap64 (Int.tmod a0 65536)) - (wrap64 (a1)))) (wrap64 ((((Int.tdiv a0 65536) % 4294967296) - 1) - (wrap64 (t250 * (wrap64 (a1))))))).bind fun t251 => (some t251)) = some r := H
    have A6 := Aside0.mk A60
    clear A60
    replace H := Option.bind_eq_some_iff.mp H
    obtain ⟨t251, A70, H⟩ := H
    replace H : (some t251) = some r := H
    have A7 := Aside0.mk A70
    clear A70
    obtain rfl := Option.some.inj H
    go_enter Try.func18, Try.ntmps18
    go_wp2_with (first | ((with_reducible refine gate_callee (f := 21) rfl ?_); refine goesL_ (some 24) rfl rfl Try.func21 (by kernel_rfl) rfl #[.int .i64 0] rfl (by (try simp only [List.map_toArray, List.map_cons, List.map_nil]); first | done | rfl | (simp only [List.length_drop, List.length_take]; rfl)) ?_; (with_reducible refine (colloquyref02_modulo.calls 0 t249 _ A5.out).mono ?_); rintro e w' ⟨rfl, ⟨nd, rfl⟩⟩; refine ⟨_, rfl, ?_⟩) | ((with_reducible refine gate_callee (f := 21) rfl ?_); refine goesL_ (some 26) rfl rfl Try.func21 (by kernel_rfl) rfl #[.int .i64 (wrap64 (t249 + 1))] rfl (by (try simp only [List.map_toArray, List.map_cons, List.map_nil]); first | done | rfl | (simp only [List.length_drop, List.length_take]; rfl)) ?_; (with_reducible refine (colloquyref02_modulo.calls (wrap64 (t249 + 1)) t250 _ A6.out).mono ?_); rintro e w' ⟨rfl, ⟨nd, rfl⟩⟩; refine ⟨_, rfl, ?_⟩) | ((with_reducible refine gate_callee (f := 22) rfl ?_); refine goesL_ (some 31) rfl rfl Try.func22 (by kernel_rfl) rfl #[.int .i64 (wrap64 ((wrap64 (Int.tmod a0 65536)) - (wrap64 (a1)))), .int .i64 (wrap64 ((((Int.tdiv a0 65536) % 4294967296) - 1) - (wrap64 (t250 * (wrap64 (a1))))))] rfl (by (try simp only [List.map_toArray, List.map_cons, List.map_nil]); first | done | rfl | (simp only [List.length_drop, List.length_take]; rfl)) ?_; (with_reducible refine (colloquyref02_whole.calls (wrap64 ((wrap64 (Int.tmod a0 65536)) - (wrap64 (a1)))) (wrap64 ((((Int.tdiv a0 65536) % 4294967296) - 1) - (wrap64 (t250 * (wrap64 (a1)))))) t251 _ A7.out).mono ?_); rintro e w' ⟨rfl, ⟨nd, rfl⟩⟩; refine ⟨_, rfl, ?_⟩))
    go_ret
    exact ⟨by first | rfl | (simp; done) | (simp [*]; done), by repeat (first | exact Drawn0.refl _ | apply Drawn0.step)⟩
  · rw [if_neg c4] at H
    have c4b0 : decide (a2 < 0) = false := decide_eq_false c4
    clear c4
    replace H := Option.bind_eq_some_iff.mp H
    obtain ⟨t252, A80, H⟩ := H
    replace H : ((colloquyref02_modulo.f (wrap64 (t252 + 1))).bind fun t253 => ((colloquyref02_whole.f (wrap64 ((wrap64 (Int.tmod a0 65536)) - (wrap64 (a1)))) (wrap64 ((((Int.tdiv a0 65536) % 4294967296) - 1) - (wrap64 (t253 * (wrap64 (a1))))))).bind fun t254 => (some t254))) = some r := H
    have A8 := Aside0.mk A80
    clear A80
    replace H := Option.bind_eq_some_iff.mp H
    obtain ⟨t253, A90, H⟩ := H
    replace H : ((colloquyref02_whole.f (wrap64 ((wrap64 (Int.tmod a0 65536)) - (wrap64 (a1)))) (wrap64 ((((Int.tdiv a0 65536) % 4294967296) - 1) - (wrap64 (t253 * (wrap64 (a1))))))).bind fun t254 => (some t254)) = some r := H
    have A9 := Aside0.mk A90
    clear A90
    replace H := Option.bind_eq_some_iff.mp H
    obtain ⟨t254, A100, H⟩ := H
    replace H : (some t254) = some r := H
    have A10 := Aside0.mk A100
    clear A100
    obtain rfl := Option.some.inj H
    go_enter Try.func18, Try.ntmps18
    go_wp2_with (first | ((with_reducible refine gate_callee (f := 21) rfl ?_); refine goesL_ (some 24) rfl rfl Try.func21 (by kernel_rfl) rfl #[.int .i64 a2] rfl (by (try simp only [List.map_toArray, List.map_cons, List.map_nil]); first | done | rfl | (simp only [List.length_drop, List.length_take]; rfl)) ?_; (with_reducible refine (colloquyref02_modulo.calls a2 t252 _ A8.out).mono ?_); rintro e w' ⟨rfl, ⟨nd, rfl⟩⟩; refine ⟨_, rfl, ?_⟩) | ((with_reducible refine gate_callee (f := 21) rfl ?_); refine goesL_ (some 26) rfl rfl Try.func21 (by kernel_rfl) rfl #[.int .i64 (wrap64 (t252 + 1))] rfl (by (try simp only [List.map_toArray, List.map_cons, List.map_nil]); first | done | rfl | (simp only [List.length_drop, List.length_take]; rfl)) ?_; (with_reducible refine (colloquyref02_modulo.calls (wrap64 (t252 + 1)) t253 _ A9.out).mono ?_); rintro e w' ⟨rfl, ⟨nd, rfl⟩⟩; refine ⟨_, rfl, ?_⟩) | ((with_reducible refine gate_callee (f := 22) rfl ?_); refine goesL_ (some 31) rfl rfl Try.func22 (by kernel_rfl) rfl #[.int .i64 (wrap64 ((wrap64 (Int.tmod a0 65536)) - (wrap64 (a1)))), .int .i64 (wrap64 ((((Int.tdiv a0 65536) % 4294967296) - 1) - (wrap64 (t253 * (wrap64 (a1))))))] rfl (by (try simp only [List.map_toArray, List.map_cons, List.map_nil]); first | done | rfl | (simp only [List.length_drop, List.length_take]; rfl)) ?_; (with_reducible refine (colloquyref02_whole.calls (wrap64 ((wrap64 (Int.tmod a0 65536)) - (wrap64 (a1)))) (wrap64 ((((Int.tdiv a0 65536) % 4294967296) - 1) - (wrap64 (t253 * (wrap64 (a1)))))) t254 _ A10.out).mono ?_); rintro e w' ⟨rfl, ⟨nd, rfl⟩⟩; refine ⟨_, rfl, ?_⟩))
    go_ret
    exact ⟨by first | rfl | (simp; done) | (simp [*]; done), by repeat (first | exact Drawn0.refl _ | apply Drawn0.step)⟩

end Go.Proofs.Ytbkfnhkgfagelaa.PAll
