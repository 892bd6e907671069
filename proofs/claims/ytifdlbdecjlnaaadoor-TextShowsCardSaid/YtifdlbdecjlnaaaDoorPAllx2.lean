/- The machine's side of this claim, written by a program of this session out of the translation: for each Go function a Lean function of its answers, and the proof that the code comes to just these. Conditions: those that each theorem states. -/
import Derived.Test.YtifdlbdecjlnaaaDoorPAllx0
import Derived.Test.YtifdlbdecjlnaaaDoorPAllx1
namespace Go.Proofs.YtifdlbdecjlnaaaDoor.PAll
open Go.RowKit Go.Proofs.YtifdlbdecjlnaaaDoorW.PrintWords Go.Proofs.YtifdlbdecjlnaaaDoorW.PrintLast Go.Proofs.YtifdlbdecjlnaaaDoorW.PrintMore
attribute [local go_sem] max2_int min2_int max_two min_two max_three min_three max_four min_four   -- for this text's walks alone
set_option linter.unusedVariables false
set_option linter.unusedSimpArgs false

/-! ### colloquyref14_size: function 31 -/
mutual
def colloquyref14_size.j0 : Nat → ByteArray → Int → Int → Bool → Bool → Bool → Option (Int)
  | 0, _, _, _, _, _, _ => none
  | k + 1, x0, x1, x5, x7, x8, x36 => if x36 = true then (some 2) else (if x5 ≥ 224 then (if x5 ≤ 239 then (colloquyref14_size.j1 k x0 x1 x5 x8 x7) else (colloquyref14_size.j1 k x0 x1 x5 x8 false)) else (colloquyref14_size.j1 k x0 x1 x5 x8 false))
def colloquyref14_size.j1 : Nat → ByteArray → Int → Int → Bool → Bool → Option (Int)
  | 0, _, _, _, _, _ => none
  | k + 1, x0, x1, x5, x8, x45 => if x45 = true then (if 0 ≤ (wrap64 (x1 + 1)) then (if (wrap64 (x1 + 1)) < (x0.size : Int) then (if x5 = 224 then (if (bt x0 (wrap64 (x1 + 1))) < 160 then (some 0) else (if x5 = 237 then (if (bt x0 (wrap64 (x1 + 1))) > 159 then (some 0) else (some 3)) else (some 3))) else (if x5 = 237 then (if (bt x0 (wrap64 (x1 + 1))) > 159 then (some 0) else (some 3)) else (some 3))) else (none)) else (none)) else (if x5 ≥ 240 then (if x5 ≤ 244 then (colloquyref14_size.j2 k x0 x1 x5 x8) else (colloquyref14_size.j2 k x0 x1 x5 false)) else (colloquyref14_size.j2 k x0 x1 x5 false))
def colloquyref14_size.j2 : Nat → ByteArray → Int → Int → Bool → Option (Int)
  | 0, _, _, _, _ => none
  | k + 1, x0, x1, x5, x72 => if x72 = true then (if 0 ≤ (wrap64 (x1 + 1)) then (if (wrap64 (x1 + 1)) < (x0.size : Int) then (if x5 = 240 then (if (bt x0 (wrap64 (x1 + 1))) < 144 then (some 0) else (if x5 = 244 then (if (bt x0 (wrap64 (x1 + 1))) > 143 then (some 0) else (some 4)) else (some 4))) else (if x5 = 244 then (if (bt x0 (wrap64 (x1 + 1))) > 143 then (some 0) else (some 4)) else (some 4))) else (none)) else (none)) else (some 0)
end
def colloquyref14_size.f (k : Nat) (a0 : ByteArray) (a1 : Int) : Option (Int) := if 0 ≤ a1 then (if a1 < (a0.size : Int) then (if (bt a0 a1) < 128 then (some 1) else ((colloquyref14_follows.f k a0 (wrap64 (a1 + 1)) 1).bind fun t120 => ((colloquyref14_follows.f k a0 (wrap64 (a1 + 1)) 2).bind fun t121 => ((colloquyref14_follows.f k a0 (wrap64 (a1 + 1)) 3).bind fun t122 => (if (bt a0 a1) ≥ 194 then (if (bt a0 a1) ≤ 223 then (colloquyref14_size.j0 k a0 a1 (bt a0 a1) t121 t122 t120) else (colloquyref14_size.j0 k a0 a1 (bt a0 a1) t121 t122 false)) else (colloquyref14_size.j0 k a0 a1 (bt a0 a1) t121 t122 false)))))) else (none)) else (none)
theorem colloquyref14_size.mono_l : ∀ k, (∀ y0 y1 y2 y3 y4 y5, LeO (colloquyref14_size.j0 k y0 y1 y2 y3 y4 y5) (colloquyref14_size.j0 (k + 1) y0 y1 y2 y3 y4 y5)) ∧ (∀ y0 y1 y2 y3 y4, LeO (colloquyref14_size.j1 k y0 y1 y2 y3 y4) (colloquyref14_size.j1 (k + 1) y0 y1 y2 y3 y4)) ∧ (∀ y0 y1 y2 y3, LeO (colloquyref14_size.j2 k y0 y1 y2 y3) (colloquyref14_size.j2 (k + 1) y0 y1 y2 y3))
  | 0 => ⟨fun _ _ _ _ _ _ r h => by simp [colloquyref14_size.j0] at h, fun _ _ _ _ _ r h => by simp [colloquyref14_size.j1] at h, fun _ _ _ _ r h => by simp [colloquyref14_size.j2] at h⟩
  | k + 1 => by
    obtain ⟨ih0, ih1, ih2⟩ := colloquyref14_size.mono_l k
    refine ⟨?_, ?_, ?_⟩
    · intro y0 y1 y2 y3 y4 y5
      unfold colloquyref14_size.j0
      repeat' first
      | (with_reducible exact ih0 _ _ _ _ _ _)
      | (with_reducible exact ih1 _ _ _ _ _)
      | (with_reducible exact ih2 _ _ _ _)
      | (with_reducible exact colloquyref14_follows.mono _ _ _ _)
      | (with_reducible exact LeO.refl _)
      | (with_reducible exact LeO.none _)
      | (with_reducible refine LeO.ite ?_ ?_)
      | (with_reducible refine LeO.bind ?_ (fun _ => ?_))
      | exact ih0 _ _ _ _ _ _
      | exact ih1 _ _ _ _ _
      | exact ih2 _ _ _ _
      | exact colloquyref14_follows.mono _ _ _ _
      | exact LeO.none _
      | refine LeO.ite ?_ ?_
      | refine LeO.bind ?_ (fun _ => ?_)
    · intro y0 y1 y2 y3 y4
      unfold colloquyref14_size.j1
      repeat' first
      | (with_reducible exact ih0 _ _ _ _ _ _)
      | (with_reducible exact ih1 _ _ _ _ _)
      | (with_reducible exact ih2 _ _ _ _)
      | (with_reducible exact colloquyref14_follows.mono _ _ _ _)
      | (with_reducible exact LeO.refl _)
      | (with_reducible exact LeO.none _)
      | (with_reducible refine LeO.ite ?_ ?_)
      | (with_reducible refine LeO.bind ?_ (fun _ => ?_))
      | exact ih0 _ _ _ _ _ _
      | exact ih1 _ _ _ _ _
      | exact ih2 _ _ _ _
      | exact colloquyref14_follows.mono _ _ _ _
      | exact LeO.none _
      | refine LeO.ite ?_ ?_
      | refine LeO.bind ?_ (fun _ => ?_)
    · intro y0 y1 y2 y3
      unfold colloquyref14_size.j2
      repeat' first
      | (with_reducible exact ih0 _ _ _ _ _ _)
      | (with_reducible exact ih1 _ _ _ _ _)
      | (with_reducible exact ih2 _ _ _ _)
      | (with_reducible exact colloquyref14_follows.mono _ _ _ _)
      | (with_reducible exact LeO.refl _)
      | (with_reducible exact LeO.none _)
      | (with_reducible refine LeO.ite ?_ ?_)
      | (with_reducible refine LeO.bind ?_ (fun _ => ?_))
      | exact ih0 _ _ _ _ _ _
      | exact ih1 _ _ _ _ _
      | exact ih2 _ _ _ _
      | exact colloquyref14_follows.mono _ _ _ _
      | exact LeO.none _
      | refine LeO.ite ?_ ?_
      | refine LeO.bind ?_ (fun _ => ?_)
theorem colloquyref14_size.mono : ∀ a0 a1 k, LeO (colloquyref14_size.f k a0 a1) (colloquyref14_size.f (k + 1) a0 a1) := by
  intro a0 a1 k
  obtain ⟨ih0, ih1, ih2⟩ := colloquyref14_size.mono_l k
  unfold colloquyref14_size.f
  repeat' first
      | (with_reducible exact ih0 _ _ _ _ _ _)
      | (with_reducible exact ih1 _ _ _ _ _)
      | (with_reducible exact ih2 _ _ _ _)
      | (with_reducible exact colloquyref14_follows.mono _ _ _ _)
      | (with_reducible exact LeO.refl _)
      | (with_reducible exact LeO.none _)
      | (with_reducible refine LeO.ite ?_ ?_)
      | (with_reducible refine LeO.bind ?_ (fun _ => ?_))
      | exact ih0 _ _ _ _ _ _
      | exact ih1 _ _ _ _ _
      | exact ih2 _ _ _ _
      | exact colloquyref14_follows.mono _ _ _ _
      | exact LeO.none _
      | refine LeO.ite ?_ ?_
      | refine LeO.bind ?_ (fun _ => ?_)
set_option maxHeartbeats 8000000 in
set_option maxRecDepth 100000 in
theorem colloquyref14_size.calls (k : Nat) (a0 : ByteArray) (a1 : Int) (r : Int) (w : World) (h : colloquyref14_size.f k a0 a1 = some r) :
    Calls Tryd.prog 31 #[.string a0, .int .i64 a1] w fun e w' => e = .returned (.int .i64 r) ∧ Drawn0 w w' := by
  have H : (if 0 ≤ a1 then (if a1 < (a0.size : Int) then (if (bt a0 a1) < 128 then (some 1) else ((colloquyref14_follows.f k a0 (wrap64 (a1 + 1)) 1).bind fun t120 => ((colloquyref14_follows.f k a0 (wrap64 (a1 + 1)) 2).bind fun t121 => ((colloquyref14_follows.f k a0 (wrap64 (a1 + 1)) 3).bind fun t122 => (if (bt a0 a1) ≥ 194 then (if (bt a0 a1) ≤ 223 then (colloquyref14_size.j0 k a0 a1 (bt a0 a1) t121 t122 t120) else (colloquyref14_size.j0 k a0 a1 (bt a0 a1) t121 t122 false)) else (colloquyref14_size.j0 k a0 a1 (bt a0 a1) t121 t122 false)))))) else (none)) else (none)) = some r := h
  clear h
  by_cases c3 : 0 ≤ a1
  · rw [if_pos c3] at H
    have c3b0 : decide (0 ≤ a1) = true := decide_eq_true c3
    clear c3
    by_cases c4 : a1 < (a0.size : Int)
    · rw [if_pos c4] at H
      have c4b0 : decide (a1 < (a0.size : Int)) = true := decide_eq_true c4
      clear c4
      by_cases c6 : (bt a0 a1) < 128
      · rw [if_pos c6] at H
        have c6b0 : decide ((bt a0 a1) < 128) = true := decide_eq_true c6
        clear c6
        obtain rfl := Option.some.inj H
        have p5 : 0 ≤ (a1 : Int) := of_decide_eq_true (by first | (with_reducible assumption) | assumption)
        have q5 : a1 < (a0.size : Int) := of_decide_eq_true (by first | (with_reducible assumption) | assumption)
        have hx5 := bt_at a0 a1
        replace p5 := eq_true p5
        replace q5 := eq_true q5
        go_enter Tryd.func31, Tryd.ntmps31
        go_wp2
        go_ret
        exact ⟨by first | rfl | (simp; done) | (simp [*]; done), by repeat (first | exact Drawn0.refl _ | apply Drawn0.step)⟩
      · rw [if_neg c6] at H
        have c6b0 : decide ((bt a0 a1) < 128) = false := decide_eq_false c6
        clear c6
        replace H := Option.bind_eq_some_iff.mp H
        obtain ⟨t120, A70, H⟩ := H
        replace H : ((colloquyref14_follows.f k a0 (wrap64 (a1 + 1)) 2).bind fun t121 => ((colloquyref14_follows.f k a0 (wrap64 (a1 + 1)) 3).bind fun t122 => (if (bt a0 a1) ≥ 194 then (if (bt a0 a1) ≤ 223 then (colloquyref14_size.j0 k a0 a1 (bt a0 a1) t121 t122 t120) else (colloquyref14_size.j0 k a0 a1 (bt a0 a1) t121 t122 false)) else (colloquyref14_size.j0 k a0 a1 (bt a0 a1) t121 t122 false)))) = some r := H
        have A7 := Aside0.mk A70
        clear A70
        replace H := Option.bind_eq_some_iff.mp H
        obtain ⟨t121, A80, H⟩ := H
        replace H : ((colloquyref14_follows.f k a0 (wrap64 (a1 + 1)) 3).bind fun t122 => (if (bt a0 a1) ≥ 194 then (if (bt a0 a1) ≤ 223 then (colloquyref14_size.j0 k a0 a1 (bt a0 a1) t121 t122 t120) else (colloquyref14_size.j0 k a0 a1 (bt a0 a1) t121 t122 false)) else (colloquyref14_size.j0 k a0 a1 (bt a0 a1) t121 t122 false))) = some r := H
        have A8 := Aside0.mk A80
        clear A80
        replace H := Option.bind_eq_some_iff.mp H
        obtain ⟨t122, A90, H⟩ := H
        replace H : (if (bt a0 a1) ≥ 194 then (if (bt a0 a1) ≤ 223 then (colloquyref14_size.j0 k a0 a1 (bt a0 a1) t121 t122 t120) else (colloquyref14_size.j0 k a0 a1 (bt a0 a1) t121 t122 false)) else (colloquyref14_size.j0 k a0 a1 (bt a0 a1) t121 t122 false)) = some r := H
        have A9 := Aside0.mk A90
        clear A90
        have HC10 := Aside0.mk H
        clear H
        have p5 : 0 ≤ (a1 : Int) := of_decide_eq_true (by first | (with_reducible assumption) | assumption)
        have q5 : a1 < (a0.size : Int) := of_decide_eq_true (by first | (with_reducible assumption) | assumption)
        have hx5 := bt_at a0 a1
        replace p5 := eq_true p5
        replace q5 := eq_true q5
        go_enter Tryd.func31, Tryd.ntmps31
        go_upto_region 7 with (first | ((with_reducible refine gate_callee (f := 42) rfl ?_); refine goesL_ (some 19) rfl rfl Tryd.func42 (by kernel_rfl) rfl #[.string a0, .int .i64 (wrap64 (a1 + 1)), .int .i64 1] rfl (by (try simp only [List.map_toArray, List.map_cons, List.map_nil]); first | done | rfl | (simp only [List.length_drop, List.length_take]; rfl)) ?_; (with_reducible refine (colloquyref14_follows.calls k a0 (wrap64 (a1 + 1)) 1 t120 _ A7.out).mono ?_); rintro e w' ⟨rfl, ⟨nd, rfl⟩⟩; refine ⟨_, rfl, ?_⟩) | ((with_reducible refine gate_callee (f := 42) rfl ?_); refine goesL_ (some 23) rfl rfl Tryd.func42 (by kernel_rfl) rfl #[.string a0, .int .i64 (wrap64 (a1 + 1)), .int .i64 2] rfl (by (try simp only [List.map_toArray, List.map_cons, List.map_nil]); first | done | rfl | (simp only [List.length_drop, List.length_take]; rfl)) ?_; (with_reducible refine (colloquyref14_follows.calls k a0 (wrap64 (a1 + 1)) 2 t121 _ A8.out).mono ?_); rintro e w' ⟨rfl, ⟨nd, rfl⟩⟩; refine ⟨_, rfl, ?_⟩) | ((with_reducible refine gate_callee (f := 42) rfl ?_); refine goesL_ (some 27) rfl rfl Tryd.func42 (by kernel_rfl) rfl #[.string a0, .int .i64 (wrap64 (a1 + 1)), .int .i64 3] rfl (by (try simp only [List.map_toArray, List.map_cons, List.map_nil]); first | done | rfl | (simp only [List.length_drop, List.length_take]; rfl)) ?_; (with_reducible refine (colloquyref14_follows.calls k a0 (wrap64 (a1 + 1)) 3 t122 _ A9.out).mono ?_); rintro e w' ⟨rfl, ⟨nd, rfl⟩⟩; refine ⟨_, rfl, ?_⟩))
        (try simp only [Act.put, List.setIfInBounds_toArray, List.set_cons_zero, List.set_cons_succ])
        go_cut [36] (fun v36 wc => ∃ (kq : Nat) (x36_9 : Bool), v36 = .bool x36_9 ∧ Aside0 (colloquyref14_size.j0 kq a0 a1 (bt a0 a1) t121 t122 x36_9 = some r) ∧ Aside0 (kq ≤ k) ∧ Drawn0 w wc)
        case first =>
          have H := HC10.out
          clear HC10
          by_cases c11 : (bt a0 a1) ≥ 194
          · rw [if_pos c11] at H
            have c11b0 : decide (194 ≤ (bt a0 a1)) = true := decide_eq_true c11
            clear c11
            (first | rw [c11b0] | (simp only [i64_w, i32_w]; rw [c11b0]) | skip)
            by_cases c12 : (bt a0 a1) ≤ 223
            · rw [if_pos c12] at H
              have c12b0 : decide ((bt a0 a1) ≤ 223) = true := decide_eq_true c12
              clear c12
              have H' := Aside0.mk H
              clear H
              go_wp2
              go_meet
              case rel => exact ⟨_, (t120), (by first | rfl | (simp; done) | (simp [*]; done)), H', ⟨by first | omega | exact Nat.le_refl _⟩, by repeat (first | exact Drawn0.refl _ | apply Drawn0.step)⟩
            · rw [if_neg c12] at H
              have c12b0 : decide ((bt a0 a1) ≤ 223) = false := decide_eq_false c12
              clear c12
              have H' := Aside0.mk H
              clear H
              go_wp2
              go_meet
              case rel => exact ⟨_, (false), (by first | rfl | (simp; done) | (simp [*]; done)), H', ⟨by first | omega | exact Nat.le_refl _⟩, by repeat (first | exact Drawn0.refl _ | apply Drawn0.step)⟩
          · rw [if_neg c11] at H
            have c11b0 : decide (194 ≤ (bt a0 a1)) = false := decide_eq_false c11
            clear c11
            (first | rw [c11b0] | (simp only [i64_w, i32_w]; rw [c11b0]) | skip)
            have H' := Aside0.mk H
            clear H
            go_wp2
            go_meet
            case rel => exact ⟨_, (false), (by first | rfl | (simp; done) | (simp [*]; done)), H', ⟨by first | omega | exact Nat.le_refl _⟩, by repeat (first | exact Drawn0.refl _ | apply Drawn0.step)⟩
        case rest =>
          clear HC10
          try clear c1
          try clear p2
          try clear c3
          try clear c3b0
          try clear c4
          try clear c4b0
          try clear p5
          try clear q5
          try clear hx5
          try clear c6
          try clear c6b0
          try clear p6
          try clear c11
          try clear c11b0
          try clear c12
          try clear c12b0
          try clear p5
          try clear q5
          obtain ⟨kq, x36_9, rfl, HA, HJ9, ⟨mc9, rfl⟩⟩ := hcut
          cases kq with
          | zero => exact absurd HA.out (by simp [colloquyref14_size.j0])
          | succ kj9 =>
            have H := HA.out
            clear HA
            simp only [colloquyref14_size.j0] at H
            by_cases c13 : x36_9 = true
            · subst c13
              have H1 : (some 2) = some r := by rw [if_pos rfl] at H; exact H
              clear H
              have H := H1
              clear H1
              obtain rfl := Option.some.inj H
              go_wp2
              go_ret
              exact ⟨by first | rfl | (simp; done) | (simp [*]; done), by repeat (first | exact Drawn0.refl _ | apply Drawn0.step)⟩
            · replace c13 := Bool.eq_false_iff.mpr c13
              subst c13
              have H1 : (if (bt a0 a1) ≥ 224 then (if (bt a0 a1) ≤ 239 then (colloquyref14_size.j1 kj9 a0 a1 (bt a0 a1) t122 t121) else (colloquyref14_size.j1 kj9 a0 a1 (bt a0 a1) t122 false)) else (colloquyref14_size.j1 kj9 a0 a1 (bt a0 a1) t122 false)) = some r := by rw [if_neg (show ¬ (false = true) by decide)] at H; exact H
              clear H
              have H := H1
              clear H1
              have HC14 := Aside0.mk H
              clear H
              go_upto_region 9 with (fail)
              go_cut [45] (fun v45 wc => ∃ (kq : Nat) (x45_13 : Bool), v45 = .bool x45_13 ∧ Aside0 (colloquyref14_size.j1 kq a0 a1 (bt a0 a1) t122 x45_13 = some r) ∧ Aside0 (kq ≤ kj9) ∧ Drawn0 w wc)
              case first =>
                have H := HC14.out
                clear HC14
                by_cases c15 : (bt a0 a1) ≥ 224
                · rw [if_pos c15] at H
                  have c15b0 : decide (224 ≤ (bt a0 a1)) = true := decide_eq_true c15
                  clear c15
                  (first | rw [c15b0] | (simp only [i64_w, i32_w]; rw [c15b0]) | skip)
                  by_cases c16 : (bt a0 a1) ≤ 239
                  · rw [if_pos c16] at H
                    have c16b0 : decide ((bt a0 a1) ≤ 239) = true := decide_eq_true c16
                    clear c16
                    have H' := Aside0.mk H
                    clear H
                    go_wp2
                    go_meet
                    case rel => exact ⟨_, (t121), (by first | rfl | (simp; done) | (simp [*]; done)), H', ⟨by have := HJ9.out; first | omega | exact Nat.le_refl _⟩, by repeat (first | exact Drawn0.refl _ | apply Drawn0.step)⟩
                  · rw [if_neg c16] at H
                    have c16b0 : decide ((bt a0 a1) ≤ 239) = false := decide_eq_false c16
                    clear c16
                    have H' := Aside0.mk H
                    clear H
                    go_wp2
                    go_meet
                    case rel => exact ⟨_, (false), (by first | rfl | (simp; done) | (simp [*]; done)), H', ⟨by have := HJ9.out; first | omega | exact Nat.le_refl _⟩, by repeat (first | exact Drawn0.refl _ | apply Drawn0.step)⟩
                · rw [if_neg c15] at H
                  have c15b0 : decide (224 ≤ (bt a0 a1)) = false := decide_eq_false c15
                  clear c15
                  (first | rw [c15b0] | (simp only [i64_w, i32_w]; rw [c15b0]) | skip)
                  have H' := Aside0.mk H
                  clear H
                  go_wp2
                  go_meet
                  case rel => exact ⟨_, (false), (by first | rfl | (simp; done) | (simp [*]; done)), H', ⟨by have := HJ9.out; first | omega | exact Nat.le_refl _⟩, by repeat (first | exact Drawn0.refl _ | apply Drawn0.step)⟩
              case rest =>
                clear HC14
                try clear c1
                try clear p2
                try clear c3
                try clear c3b0
                try clear c4
                try clear c4b0
                try clear p5
                try clear q5
                try clear hx5
                try clear c6
                try clear c6b0
                try clear p6
                try clear c9
                try clear c11
                try clear c11b0
                try clear c12
                try clear c12b0
                try clear c13
                try clear c15
                try clear c15b0
                try clear c16
                try clear c16b0
                try clear p2
                try clear p5
                try clear p6
                try clear q5
                obtain ⟨kq, x45_13, rfl, HA, HJ13, ⟨mc13, rfl⟩⟩ := hcut
                cases kq with
                | zero => exact absurd HA.out (by simp [colloquyref14_size.j1])
                | succ kj13 =>
                  have H := HA.out
                  clear HA
                  simp only [colloquyref14_size.j1] at H
                  by_cases c17 : x45_13 = true
                  · subst c17
                    have H1 : (if 0 ≤ (wrap64 (a1 + 1)) then (if (wrap64 (a1 + 1)) < (a0.size : Int) then (if (bt a0 a1) = 224 then (if (bt a0 (wrap64 (a1 + 1))) < 160 then (some 0) else (if (bt a0 a1) = 237 then (if (bt a0 (wrap64 (a1 + 1))) > 159 then (some 0) else (some 3)) else (some 3))) else (if (bt a0 a1) = 237 then (if (bt a0 (wrap64 (a1 + 1))) > 159 then (some 0) else (some 3)) else (some 3))) else (none)) else (none)) = some r := by rw [if_pos rfl] at H; exact H
                    clear H
                    have H := H1
                    clear H1
                    obtain ⟨ji18, hji18⟩ : ∃ j_ : Int, (wrap64 (a1 + 1)) = j_ := ⟨_, rfl⟩
                    replace H : (if 0 ≤ (ji18) then (if (ji18) < (a0.size : Int) then (if (bt a0 a1) = 224 then (if (bt a0 (ji18)) < 160 then (some 0) else (if (bt a0 a1) = 237 then (if (bt a0 (ji18)) > 159 then (some 0) else (some 3)) else (some 3))) else (if (bt a0 a1) = 237 then (if (bt a0 (ji18)) > 159 then (some 0) else (some 3)) else (some 3))) else (none)) else (none)) = some r := by first | (rw [hji18] at H; exact H) | (simp only [hji18] at H ⊢; exact H)
                    have hji18w : (IntKind.i64.wrap (a1 + 1)) = ji18 := (i64_w _).trans hji18
                    by_cases c19 : 0 ≤ (ji18)
                    · rw [if_pos c19] at H
                      have c19b0 : decide (0 ≤ (ji18)) = true := decide_eq_true c19
                      clear c19
                      by_cases c20 : (ji18) < (a0.size : Int)
                      · rw [if_pos c20] at H
                        have c20b0 : decide ((ji18) < (a0.size : Int)) = true := decide_eq_true c20
                        clear c20
                        by_cases c22 : (bt a0 a1) = 224
                        · rw [if_pos c22] at H
                          have c22b0 : ((bt a0 a1) == 224) = true := beq_iff_eq.mpr c22
                          have c22b1 : ((bt a0 a1) != 224) = false := bne_eq_false_iff_eq.mpr c22
                          clear c22
                          by_cases c23 : (bt a0 (ji18)) < 160
                          · rw [if_pos c23] at H
                            have c23b0 : decide ((bt a0 (ji18)) < 160) = true := decide_eq_true c23
                            clear c23
                            obtain rfl := Option.some.inj H
                            have p21 : 0 ≤ ((ji18) : Int) := of_decide_eq_true (by first | (with_reducible assumption) | assumption)
                            have q21 : (ji18) < (a0.size : Int) := of_decide_eq_true (by first | (with_reducible assumption) | assumption)
                            have hx21 := bt_at a0 (ji18)
                            replace p21 := eq_true p21
                            replace q21 := eq_true q21
                            go_wp2
                            go_ret
                            exact ⟨by first | rfl | (simp; done) | (simp only [← hji18] <;> (first | rfl | simp)) | (simp [*]; done), by repeat (first | exact Drawn0.refl _ | apply Drawn0.step)⟩
                          · rw [if_neg c23] at H
                            have c23b0 : decide ((bt a0 (ji18)) < 160) = false := decide_eq_false c23
                            clear c23
                            by_cases c24 : (bt a0 a1) = 237
                            · rw [if_pos c24] at H
                              have c24b0 : ((bt a0 a1) == 237) = true := beq_iff_eq.mpr c24
                              have c24b1 : ((bt a0 a1) != 237) = false := bne_eq_false_iff_eq.mpr c24
                              clear c24
                              by_cases c25 : (bt a0 (ji18)) > 159
                              · rw [if_pos c25] at H
                                have c25b0 : decide (159 < (bt a0 (ji18))) = true := decide_eq_true c25
                                clear c25
                                obtain rfl := Option.some.inj H
                                have p21 : 0 ≤ ((ji18) : Int) := of_decide_eq_true (by first | (with_reducible assumption) | assumption)
                                have q21 : (ji18) < (a0.size : Int) := of_decide_eq_true (by first | (with_reducible assumption) | assumption)
                                have hx21 := bt_at a0 (ji18)
                                replace p21 := eq_true p21
                                replace q21 := eq_true q21
                                go_wp2
                                go_ret
                                exact ⟨by first | rfl | (simp; done) | (simp only [← hji18] <;> (first | rfl | simp)) | (simp [*]; done), by repeat (first | exact Drawn0.refl _ | apply Drawn0.step)⟩
                              · rw [if_neg c25] at H
                                have c25b0 : decide (159 < (bt a0 (ji18))) = false := decide_eq_false c25
                                clear c25
                                obtain rfl := Option.some.inj H
                                have p21 : 0 ≤ ((ji18) : Int) := of_decide_eq_true (by first | (with_reducible assumption) | assumption)
                                have q21 : (ji18) < (a0.size : Int) := of_decide_eq_true (by first | (with_reducible assumption) | assumption)
                                have hx21 := bt_at a0 (ji18)
                                replace p21 := eq_true p21
                                replace q21 := eq_true q21
                                go_wp2
                                go_ret
                                exact ⟨by first | rfl | (simp; done) | (simp only [← hji18] <;> (first | rfl | simp)) | (simp [*]; done), by repeat (first | exact Drawn0.refl _ | apply Drawn0.step)⟩
                            · rw [if_neg c24] at H
                              have c24b0 : ((bt a0 a1) == 237) = false := beq_eq_false_iff_ne.mpr c24
                              have c24b1 : ((bt a0 a1) != 237) = true := bne_iff_ne.mpr c24
                              obtain rfl := Option.some.inj H
                              have p21 : 0 ≤ ((ji18) : Int) := of_decide_eq_true (by first | (with_reducible assumption) | assumption)
                              have q21 : (ji18) < (a0.size : Int) := of_decide_eq_true (by first | (with_reducible assumption) | assumption)
                              have hx21 := bt_at a0 (ji18)
                              replace p21 := eq_true p21
                              replace q21 := eq_true q21
                              go_wp2
                              go_ret
                              exact ⟨by first | rfl | (simp; done) | (simp only [← hji18] <;> (first | rfl | simp)) | (simp [*]; done), by repeat (first | exact Drawn0.refl _ | apply Drawn0.step)⟩
                        · rw [if_neg c22] at H
                          have c22b0 : ((bt a0 a1) == 224) = false := beq_eq_false_iff_ne.mpr c22
                          have c22b1 : ((bt a0 a1) != 224) = true := bne_iff_ne.mpr c22
                          by_cases c26 : (bt a0 a1) = 237
                          · rw [if_pos c26] at H
                            have c26b0 : ((bt a0 a1) == 237) = true := beq_iff_eq.mpr c26
                            have c26b1 : ((bt a0 a1) != 237) = false := bne_eq_false_iff_eq.mpr c26
                            clear c26
                            by_cases c27 : (bt a0 (ji18)) > 159
                            · rw [if_pos c27] at H
                              have c27b0 : decide (159 < (bt a0 (ji18))) = true := decide_eq_true c27
                              clear c27
                              obtain rfl := Option.some.inj H
                              have p21 : 0 ≤ ((ji18) : Int) := of_decide_eq_true (by first | (with_reducible assumption) | assumption)
                              have q21 : (ji18) < (a0.size : Int) := of_decide_eq_true (by first | (with_reducible assumption) | assumption)
                              have hx21 := bt_at a0 (ji18)
                              replace p21 := eq_true p21
                              replace q21 := eq_true q21
                              go_wp2
                              go_ret
                              exact ⟨by first | rfl | (simp; done) | (simp only [← hji18] <;> (first | rfl | simp)) | (simp [*]; done), by repeat (first | exact Drawn0.refl _ | apply Drawn0.step)⟩
                            · rw [if_neg c27] at H
                              have c27b0 : decide (159 < (bt a0 (ji18))) = false := decide_eq_false c27
                              clear c27
                              obtain rfl := Option.some.inj H
                              have p21 : 0 ≤ ((ji18) : Int) := of_decide_eq_true (by first | (with_reducible assumption) | assumption)
                              have q21 : (ji18) < (a0.size : Int) := of_decide_eq_true (by first | (with_reducible assumption) | assumption)
                              have hx21 := bt_at a0 (ji18)
                              replace p21 := eq_true p21
                              replace q21 := eq_true q21
                              go_wp2
                              go_ret
                              exact ⟨by first | rfl | (simp; done) | (simp only [← hji18] <;> (first | rfl | simp)) | (simp [*]; done), by repeat (first | exact Drawn0.refl _ | apply Drawn0.step)⟩
                          · rw [if_neg c26] at H
                            have c26b0 : ((bt a0 a1) == 237) = false := beq_eq_false_iff_ne.mpr c26
                            have c26b1 : ((bt a0 a1) != 237) = true := bne_iff_ne.mpr c26
                            obtain rfl := Option.some.inj H
                            have p21 : 0 ≤ ((ji18) : Int) := of_decide_eq_true (by first | (with_reducible assumption) | assumption)
                            have q21 : (ji18) < (a0.size : Int) := of_decide_eq_true (by first | (with_reducible assumption) | assumption)
                            have hx21 := bt_at a0 (ji18)
                            replace p21 := eq_true p21
                            replace q21 := eq_true q21
                            go_wp2
                            go_ret
                            exact ⟨by first | rfl | (simp; done) | (simp only [← hji18] <;> (first | rfl | simp)) | (simp [*]; done), by repeat (first | exact Drawn0.refl _ | apply Drawn0.step)⟩
                      · rw [if_neg c20] at H
                        exact absurd H (by simp)
                    · rw [if_neg c19] at H
                      exact absurd H (by simp)
                  · replace c17 := Bool.eq_false_iff.mpr c17
                    subst c17
                    have H1 : (if (bt a0 a1) ≥ 240 then (if (bt a0 a1) ≤ 244 then (colloquyref14_size.j2 kj13 a0 a1 (bt a0 a1) t122) else (colloquyref14_size.j2 kj13 a0 a1 (bt a0 a1) false)) else (colloquyref14_size.j2 kj13 a0 a1 (bt a0 a1) false)) = some r := by rw [if_neg (show ¬ (false = true) by decide)] at H; exact H
                    clear H
                    have H := H1
                    clear H1
                    have HC28 := Aside0.mk H
                    clear H
                    go_upto_region 14 with (fail)
                    go_cut [72] (fun v72 wc => ∃ (kq : Nat) (x72_27 : Bool), v72 = .bool x72_27 ∧ Aside0 (colloquyref14_size.j2 kq a0 a1 (bt a0 a1) x72_27 = some r) ∧ Aside0 (kq ≤ kj13) ∧ Drawn0 w wc)
                    case first =>
                      have H := HC28.out
                      clear HC28
                      by_cases c29 : (bt a0 a1) ≥ 240
                      · rw [if_pos c29] at H
                        have c29b0 : decide (240 ≤ (bt a0 a1)) = true := decide_eq_true c29
                        clear c29
                        (first | rw [c29b0] | (simp only [i64_w, i32_w]; rw [c29b0]) | skip)
                        by_cases c30 : (bt a0 a1) ≤ 244
                        · rw [if_pos c30] at H
                          have c30b0 : decide ((bt a0 a1) ≤ 244) = true := decide_eq_true c30
                          clear c30
                          have H' := Aside0.mk H
                          clear H
                          go_wp2
                          go_meet
                          case rel => exact ⟨_, (t122), (by first | rfl | (simp; done) | (simp [*]; done)), H', ⟨by have := HJ9.out; have := HJ13.out; first | omega | exact Nat.le_refl _⟩, by repeat (first | exact Drawn0.refl _ | apply Drawn0.step)⟩
                        · rw [if_neg c30] at H
                          have c30b0 : decide ((bt a0 a1) ≤ 244) = false := decide_eq_false c30
                          clear c30
                          have H' := Aside0.mk H
                          clear H
                          go_wp2
                          go_meet
                          case rel => exact ⟨_, (false), (by first | rfl | (simp; done) | (simp [*]; done)), H', ⟨by have := HJ9.out; have := HJ13.out; first | omega | exact Nat.le_refl _⟩, by repeat (first | exact Drawn0.refl _ | apply Drawn0.step)⟩
                      · rw [if_neg c29] at H
                        have c29b0 : decide (240 ≤ (bt a0 a1)) = false := decide_eq_false c29
                        clear c29
                        (first | rw [c29b0] | (simp only [i64_w, i32_w]; rw [c29b0]) | skip)
                        have H' := Aside0.mk H
                        clear H
                        go_wp2
                        go_meet
                        case rel => exact ⟨_, (false), (by first | rfl | (simp; done) | (simp [*]; done)), H', ⟨by have := HJ9.out; have := HJ13.out; first | omega | exact Nat.le_refl _⟩, by repeat (first | exact Drawn0.refl _ | apply Drawn0.step)⟩
                    case rest =>
                      clear HC28
                      try clear c1
                      try clear c2
                      try clear p2
                      try clear q2
                      try clear hx2
                      try clear c3
                      try clear c3b0
                      try clear c4
                      try clear c4b0
                      try clear p5
                      try clear q5
                      try clear hx5
                      try clear c6
                      try clear c6b0
                      try clear p6
                      try clear c9
                      try clear c11
                      try clear c11b0
                      try clear c12
                      try clear c12b0
                      try clear c13
                      try clear c15
                      try clear c15b0
                      try clear c16
                      try clear c16b0
                      try clear c17
                      try clear c19
                      try clear c19b0
                      try clear c20
                      try clear c20b0
                      try clear p21
                      try clear q21
                      try clear hx21
                      try clear c22
                      try clear c22b0
                      try clear c22b1
                      try clear c23
                      try clear c23b0
                      try clear c24
                      try clear c24b0
                      try clear c24b1
                      try clear c25
                      try clear c25b0
                      try clear c26
                      try clear c26b0
                      try clear c26b1
                      try clear c27
                      try clear c27b0
                      try clear c29
                      try clear c29b0
                      try clear c30
                      try clear c30b0
                      try clear p2
                      try clear p21
                      try clear p5
                      try clear p6
                      try clear q21
                      try clear q5
                      obtain ⟨kq, x72_27, rfl, HA, HJ27, ⟨mc27, rfl⟩⟩ := hcut
                      cases kq with
                      | zero => exact absurd HA.out (by simp [colloquyref14_size.j2])
                      | succ kj27 =>
                        have H := HA.out
                        clear HA
                        simp only [colloquyref14_size.j2] at H
                        by_cases c31 : x72_27 = true
                        · subst c31
                          have H1 : (if 0 ≤ (wrap64 (a1 + 1)) then (if (wrap64 (a1 + 1)) < (a0.size : Int) then (if (bt a0 a1) = 240 then (if (bt a0 (wrap64 (a1 + 1))) < 144 then (some 0) else (if (bt a0 a1) = 244 then (if (bt a0 (wrap64 (a1 + 1))) > 143 then (some 0) else (some 4)) else (some 4))) else (if (bt a0 a1) = 244 then (if (bt a0 (wrap64 (a1 + 1))) > 143 then (some 0) else (some 4)) else (some 4))) else (none)) else (none)) = some r := by rw [if_pos rfl] at H; exact H
                          clear H
                          have H := H1
                          clear H1
                          obtain ⟨ji32, hji32⟩ : ∃ j_ : Int, (wrap64 (a1 + 1)) = j_ := ⟨_, rfl⟩
                          replace H : (if 0 ≤ (ji32) then (if (ji32) < (a0.size : Int) then (if (bt a0 a1) = 240 then (if (bt a0 (ji32)) < 144 then (some 0) else (if (bt a0 a1) = 244 then (if (bt a0 (ji32)) > 143 then (some 0) else (some 4)) else (some 4))) else (if (bt a0 a1) = 244 then (if (bt a0 (ji32)) > 143 then (some 0) else (some 4)) else (some 4))) else (none)) else (none)) = some r := by first | (rw [hji32] at H; exact H) | (simp only [hji32] at H ⊢; exact H)
                          have hji32w : (IntKind.i64.wrap (a1 + 1)) = ji32 := (i64_w _).trans hji32
                          by_cases c33 : 0 ≤ (ji32)
                          · rw [if_pos c33] at H
                            have c33b0 : decide (0 ≤ (ji32)) = true := decide_eq_true c33
                            clear c33
                            by_cases c34 : (ji32) < (a0.size : Int)
                            · rw [if_pos c34] at H
                              have c34b0 : decide ((ji32) < (a0.size : Int)) = true := decide_eq_true c34
                              clear c34
                              by_cases c36 : (bt a0 a1) = 240
                              · rw [if_pos c36] at H
                                have c36b0 : ((bt a0 a1) == 240) = true := beq_iff_eq.mpr c36
                                have c36b1 : ((bt a0 a1) != 240) = false := bne_eq_false_iff_eq.mpr c36
                                clear c36
                                by_cases c37 : (bt a0 (ji32)) < 144
                                · rw [if_pos c37] at H
                                  have c37b0 : decide ((bt a0 (ji32)) < 144) = true := decide_eq_true c37
                                  clear c37
                                  obtain rfl := Option.some.inj H
                                  have p35 : 0 ≤ ((ji32) : Int) := of_decide_eq_true (by first | (with_reducible assumption) | assumption)
                                  have q35 : (ji32) < (a0.size : Int) := of_decide_eq_true (by first | (with_reducible assumption) | assumption)
                                  have hx35 := bt_at a0 (ji32)
                                  replace p35 := eq_true p35
                                  replace q35 := eq_true q35
                                  go_wp2
                                  go_ret
                                  exact ⟨by first | rfl | (simp; done) | (simp only [← hji32] <;> (first | rfl | simp)) | (simp [*]; done), by repeat (first | exact Drawn0.refl _ | apply Drawn0.step)⟩
                                · rw [if_neg c37] at H
                                  have c37b0 : decide ((bt a0 (ji32)) < 144) = false := decide_eq_false c37
                                  clear c37
                                  by_cases c38 : (bt a0 a1) = 244
                                  · rw [if_pos c38] at H
                                    have c38b0 : ((bt a0 a1) == 244) = true := beq_iff_eq.mpr c38
                                    have c38b1 : ((bt a0 a1) != 244) = false := bne_eq_false_iff_eq.mpr c38
                                    clear c38
                                    by_cases c39 : (bt a0 (ji32)) > 143
                                    · rw [if_pos c39] at H
                                      have c39b0 : decide (143 < (bt a0 (ji32))) = true := decide_eq_true c39
                                      clear c39
                                      obtain rfl := Option.some.inj H
                                      have p35 : 0 ≤ ((ji32) : Int) := of_decide_eq_true (by first | (with_reducible assumption) | assumption)
                                      have q35 : (ji32) < (a0.size : Int) := of_decide_eq_true (by first | (with_reducible assumption) | assumption)
                                      have hx35 := bt_at a0 (ji32)
                                      replace p35 := eq_true p35
                                      replace q35 := eq_true q35
                                      go_wp2
                                      go_ret
                                      exact ⟨by first | rfl | (simp; done) | (simp only [← hji32] <;> (first | rfl | simp)) | (simp [*]; done), by repeat (first | exact Drawn0.refl _ | apply Drawn0.step)⟩
                                    · rw [if_neg c39] at H
                                      have c39b0 : decide (143 < (bt a0 (ji32))) = false := decide_eq_false c39
                                      clear c39
                                      obtain rfl := Option.some.inj H
                                      have p35 : 0 ≤ ((ji32) : Int) := of_decide_eq_true (by first | (with_reducible assumption) | assumption)
                                      have q35 : (ji32) < (a0.size : Int) := of_decide_eq_true (by first | (with_reducible assumption) | assumption)
                                      have hx35 := bt_at a0 (ji32)
                                      replace p35 := eq_true p35
                                      replace q35 := eq_true q35
                                      go_wp2
                                      go_ret
                                      exact ⟨by first | rfl | (simp; done) | (simp only [← hji32] <;> (first | rfl | simp)) | (simp [*]; done), by repeat (first | exact Drawn0.refl _ | apply Drawn0.step)⟩
                                  · rw [if_neg c38] at H
                                    have c38b0 : ((bt a0 a1) == 244) = false := beq_eq_false_iff_ne.mpr c38
                                    have c38b1 : ((bt a0 a1) != 244) = true := bne_iff_ne.mpr c38
                                    obtain rfl := Option.some.inj H
                                    have p35 : 0 ≤ ((ji32) : Int) := of_decide_eq_true (by first | (with_reducible assumption) | assumption)
                                    have q35 : (ji32) < (a0.size : Int) := of_decide_eq_true (by first | (with_reducible assumption) | assumption)
                                    have hx35 := bt_at a0 (ji32)
                                    replace p35 := eq_true p35
                                    replace q35 := eq_true q35
                                    go_wp2
                                    go_ret
                                    exact ⟨by first | rfl | (simp; done) | (simp only [← hji32] <;> (first | rfl | simp)) | (simp [*]; done), by repeat (first | exact Drawn0.refl _ | apply Drawn0.step)⟩
                              · rw [if_neg c36] at H
                                have c36b0 : ((bt a0 a1) == 240) = false := beq_eq_false_iff_ne.mpr c36
                                have c36b1 : ((bt a0 a1) != 240) = true := bne_iff_ne.mpr c36
                                by_cases c40 : (bt a0 a1) = 244
                                · rw [if_pos c40] at H
                                  have c40b0 : ((bt a0 a1) == 244) = true := beq_iff_eq.mpr c40
                                  have c40b1 : ((bt a0 a1) != 244) = false := bne_eq_false_iff_eq.mpr c40
                                  clear c40
                                  by_cases c41 : (bt a0 (ji32)) > 143
                                  · rw [if_pos c41] at H
                                    have c41b0 : decide (143 < (bt a0 (ji32))) = true := decide_eq_true c41
                                    clear c41
                                    obtain rfl := Option.some.inj H
                                    have p35 : 0 ≤ ((ji32) : Int) := of_decide_eq_true (by first | (with_reducible assumption) | assumption)
                                    have q35 : (ji32) < (a0.size : Int) := of_decide_eq_true (by first | (with_reducible assumption) | assumption)
                                    have hx35 := bt_at a0 (ji32)
                                    replace p35 := eq_true p35
                                    replace q35 := eq_true q35
                                    go_wp2
                                    go_ret
                                    exact ⟨by first | rfl | (simp; done) | (simp only [← hji32] <;> (first | rfl | simp)) | (simp [*]; done), by repeat (first | exact Drawn0.refl _ | apply Drawn0.step)⟩
                                  · rw [if_neg c41] at H
                                    have c41b0 : decide (143 < (bt a0 (ji32))) = false := decide_eq_false c41
                                    clear c41
                                    obtain rfl := Option.some.inj H
                                    have p35 : 0 ≤ ((ji32) : Int) := of_decide_eq_true (by first | (with_reducible assumption) | assumption)
                                    have q35 : (ji32) < (a0.size : Int) := of_decide_eq_true (by first | (with_reducible assumption) | assumption)
                                    have hx35 := bt_at a0 (ji32)
                                    replace p35 := eq_true p35
                                    replace q35 := eq_true q35
                                    go_wp2
                                    go_ret
                                    exact ⟨by first | rfl | (simp; done) | (simp only [← hji32] <;> (first | rfl | simp)) | (simp [*]; done), by repeat (first | exact Drawn0.refl _ | apply Drawn0.step)⟩
                                · rw [if_neg c40] at H
                                  have c40b0 : ((bt a0 a1) == 244) = false := beq_eq_false_iff_ne.mpr c40
                                  have c40b1 : ((bt a0 a1) != 244) = true := bne_iff_ne.mpr c40
                                  obtain rfl := Option.some.inj H
                                  have p35 : 0 ≤ ((ji32) : Int) := of_decide_eq_true (by first | (with_reducible assumption) | assumption)
                                  have q35 : (ji32) < (a0.size : Int) := of_decide_eq_true (by first | (with_reducible assumption) | assumption)
                                  have hx35 := bt_at a0 (ji32)
                                  replace p35 := eq_true p35
                                  replace q35 := eq_true q35
                                  go_wp2
                                  go_ret
                                  exact ⟨by first | rfl | (simp; done) | (simp only [← hji32] <;> (first | rfl | simp)) | (simp [*]; done), by repeat (first | exact Drawn0.refl _ | apply Drawn0.step)⟩
                            · rw [if_neg c34] at H
                              exact absurd H (by simp)
                          · rw [if_neg c33] at H
                            exact absurd H (by simp)
                        · replace c31 := Bool.eq_false_iff.mpr c31
                          subst c31
                          have H1 : (some 0) = some r := by rw [if_neg (show ¬ (false = true) by decide)] at H; exact H
                          clear H
                          have H := H1
                          clear H1
                          obtain rfl := Option.some.inj H
                          go_wp2
                          go_ret
                          exact ⟨by first | rfl | (simp; done) | (simp [*]; done), by repeat (first | exact Drawn0.refl _ | apply Drawn0.step)⟩
    · rw [if_neg c4] at H
      exact absurd H (by simp)
  · rw [if_neg c3] at H
    exact absurd H (by simp)

/-! ### colloquyref14_May: function 13 -/
mutual
def colloquyref14_May.j0 : Nat → ByteArray → Bool → Option (Bool)
  | 0, _, _ => none
  | k + 1, x0, x12 => if x12 = true then (some false) else (colloquyref14_May.l0 k x0 0)
def colloquyref14_May.l0 : Nat → ByteArray → Int → Option (Bool)
  | 0, _, _ => none
  | k + 1, x0, x3 => if x3 < (x0.size : Int) then ((colloquyref14_size.f k x0 x3).bind fun t123 => (if t123 = 0 then (some false) else (if 0 ≤ x3 then (if (bt x0 x3) < 32 then (some false) else (if (bt x0 x3) = 127 then (some false) else (colloquyref14_May.l0 k x0 (wrap64 (x3 + t123))))) else (none)))) else (some true)
end
def colloquyref14_May.f (k : Nat) (a0 : ByteArray) : Option (Bool) := if (a0.size : Int) < 1 then (colloquyref14_May.j0 k a0 true) else (colloquyref14_May.j0 k a0 (decide ((a0.size : Int) > 64)))
theorem colloquyref14_May.mono_l : ∀ k, (∀ y0 y1, LeO (colloquyref14_May.j0 k y0 y1) (colloquyref14_May.j0 (k + 1) y0 y1)) ∧ (∀ y0 y1, LeO (colloquyref14_May.l0 k y0 y1) (colloquyref14_May.l0 (k + 1) y0 y1))
  | 0 => ⟨fun _ _ r h => by simp [colloquyref14_May.j0] at h, fun _ _ r h => by simp [colloquyref14_May.l0] at h⟩
  | k + 1 => by
    obtain ⟨ih0, ih1⟩ := colloquyref14_May.mono_l k
    refine ⟨?_, ?_⟩
    · intro y0 y1
      unfold colloquyref14_May.j0
      repeat' first
      | (with_reducible exact ih0 _ _)
      | (with_reducible exact ih1 _ _)
      | (with_reducible exact colloquyref14_size.mono _ _ _)
      | (with_reducible exact LeO.refl _)
      | (with_reducible exact LeO.none _)
      | (with_reducible refine LeO.ite ?_ ?_)
      | (with_reducible refine LeO.bind ?_ (fun _ => ?_))
      | exact ih0 _ _
      | exact ih1 _ _
      | exact colloquyref14_size.mono _ _ _
      | exact LeO.none _
      | refine LeO.ite ?_ ?_
      | refine LeO.bind ?_ (fun _ => ?_)
    · intro y0 y1
      unfold colloquyref14_May.l0
      repeat' first
      | (with_reducible exact ih0 _ _)
      | (with_reducible exact ih1 _ _)
      | (with_reducible exact colloquyref14_size.mono _ _ _)
      | (with_reducible exact LeO.refl _)
      | (with_reducible exact LeO.none _)
      | (with_reducible refine LeO.ite ?_ ?_)
      | (with_reducible refine LeO.bind ?_ (fun _ => ?_))
      | exact ih0 _ _
      | exact ih1 _ _
      | exact colloquyref14_size.mono _ _ _
      | exact LeO.none _
      | refine LeO.ite ?_ ?_
      | refine LeO.bind ?_ (fun _ => ?_)
theorem colloquyref14_May.mono : ∀ a0 k, LeO (colloquyref14_May.f k a0) (colloquyref14_May.f (k + 1) a0) := by
  intro a0 k
  obtain ⟨ih0, ih1⟩ := colloquyref14_May.mono_l k
  unfold colloquyref14_May.f
  repeat' first
      | (with_reducible exact ih0 _ _)
      | (with_reducible exact ih1 _ _)
      | (with_reducible exact colloquyref14_size.mono _ _ _)
      | (with_reducible exact LeO.refl _)
      | (with_reducible exact LeO.none _)
      | (with_reducible refine LeO.ite ?_ ?_)
      | (with_reducible refine LeO.bind ?_ (fun _ => ?_))
      | exact ih0 _ _
      | exact ih1 _ _
      | exact colloquyref14_size.mono _ _ _
      | exact LeO.none _
      | refine LeO.ite ?_ ?_
      | refine LeO.bind ?_ (fun _ => ?_)
set_option maxHeartbeats 8000000 in
set_option maxRecDepth 100000 in
theorem colloquyref14_May.calls (k : Nat) (a0 : ByteArray) (r : Bool) (w : World) (h : colloquyref14_May.f k a0 = some r) :
    Calls Tryd.prog 13 #[.string a0] w fun e w' => e = .returned (.bool r) ∧ Drawn0 w w' := by
  have H : (if (a0.size : Int) < 1 then (colloquyref14_May.j0 k a0 true) else (colloquyref14_May.j0 k a0 (decide ((a0.size : Int) > 64)))) = some r := h
  clear h
  have HC2 := Aside0.mk H
  clear H
  go_enter Tryd.func13, Tryd.ntmps13
  go_upto_region 1 with (fail)
  go_cut [12] (fun v12 wc => ∃ (kq : Nat) (x12_1 : Bool), v12 = .bool x12_1 ∧ Aside0 (colloquyref14_May.j0 kq a0 x12_1 = some r) ∧ Aside0 (kq ≤ k) ∧ Drawn0 w wc)
  case first =>
    have H := HC2.out
    clear HC2
    by_cases c3 : (a0.size : Int) < 1
    · rw [if_pos c3] at H
      have c3b0 : decide ((a0.size : Int) < 1) = true := decide_eq_true c3
      have c3b1 : decide (a0.size < 1) = true := decide_eq_true (by omega)
      clear c3
      (first | rw [c3b0] | (simp only [i64_w, i32_w]; rw [c3b0]) | skip)
      have H' := Aside0.mk H
      clear H
      go_wp2
      go_meet
      case rel => exact ⟨_, (true), (by first | rfl | (simp; done) | (simp [*]; done)), H', ⟨by first | omega | exact Nat.le_refl _⟩, by repeat (first | exact Drawn0.refl _ | apply Drawn0.step)⟩
    · rw [if_neg c3] at H
      have c3b0 : decide ((a0.size : Int) < 1) = false := decide_eq_false c3
      have c3b1 : decide (a0.size < 1) = false := decide_eq_false (by omega)
      clear c3
      (first | rw [c3b0] | (simp only [i64_w, i32_w]; rw [c3b0]) | skip)
      have H' := Aside0.mk H
      clear H
      go_wp2
      go_meet
      case rel => exact ⟨_, (decide ((a0.size : Int) > 64)), (by first | rfl | (simp; done) | (simp [*]; done)), H', ⟨by first | omega | exact Nat.le_refl _⟩, by repeat (first | exact Drawn0.refl _ | apply Drawn0.step)⟩
  case rest =>
    clear HC2
    try clear c1
    try clear p2
    try clear c3
    try clear c3b0
    try clear c3b1
    obtain ⟨kq, x12_1, rfl, HA, HJ1, ⟨mc1, rfl⟩⟩ := hcut
    cases kq with
    | zero => exact absurd HA.out (by simp [colloquyref14_May.j0])
    | succ kj1 =>
      have H := HA.out
      clear HA
      simp only [colloquyref14_May.j0] at H
      by_cases c4 : x12_1 = true
      · subst c4
        have H1 : (some false) = some r := by rw [if_pos rfl] at H; exact H
        clear H
        have H := H1
        clear H1
        obtain rfl := Option.some.inj H
        go_wp2
        go_ret
        exact ⟨by first | rfl | (simp; done) | (simp [*]; done), by repeat (first | exact Drawn0.refl _ | apply Drawn0.step)⟩
      · replace c4 := Bool.eq_false_iff.mpr c4
        subst c4
        have H1 : (colloquyref14_May.l0 kj1 a0 0) = some r := by rw [if_neg (show ¬ (false = true) by decide)] at H; exact H
        clear H
        have H := H1
        clear H1
        have H' := Aside0.mk H
        clear H
        go_wp2
        go_loopg [3] kj1 (fun kq v3 w' => ∃ (x3_2 : Int), v3 = .int .i64 x3_2 ∧ Aside0 (colloquyref14_May.l0 kq a0 x3_2 = some r) ∧ Aside0 (kq ≤ kj1) ∧ Drawn0 w w')
        case atStart => exact ⟨(0), (by first | rfl | (simp; done) | (simp [*]; done)), H', ⟨Nat.le_refl _⟩, by repeat (first | exact Drawn0.refl _ | apply Drawn0.step)⟩
        case round =>
          clear H'
          try clear c1
          try clear p2
          try clear c3
          try clear c3b0
          try clear c3b1
          try clear c4
          try clear p2
          obtain ⟨x3_2, rfl, HA, HK2, ⟨m2, rfl⟩⟩ := hrel
          cases gk with
          | zero => exact absurd HA.out (by simp [colloquyref14_May.l0])
          | succ k2 =>
            have H := HA.out
            clear HA
            simp only [colloquyref14_May.l0] at H
            by_cases c5 : x3_2 < (a0.size : Int)
            · rw [if_pos c5] at H
              have c5b0 : decide (x3_2 < (a0.size : Int)) = true := decide_eq_true c5
              clear c5
              replace H := Option.bind_eq_some_iff.mp H
              obtain ⟨t123, A60, H⟩ := H
              replace H : (if t123 = 0 then (some false) else (if 0 ≤ x3_2 then (if (bt a0 x3_2) < 32 then (some false) else (if (bt a0 x3_2) = 127 then (some false) else (colloquyref14_May.l0 k2 a0 (wrap64 (x3_2 + t123))))) else (none))) = some r := H
              have A6 := Aside0.mk A60
              clear A60
              by_cases c7 : t123 = 0
              · rw [if_pos c7] at H
                have c7b0 : (t123 == 0) = true := beq_iff_eq.mpr c7
                have c7b1 : (t123 != 0) = false := bne_eq_false_iff_eq.mpr c7
                clear c7
                obtain rfl := Option.some.inj H
                go_wp2_with (first | ((with_reducible refine gate_callee (f := 31) rfl ?_); refine goesL_ (some 19) rfl rfl Tryd.func31 (by kernel_rfl) rfl #[.string a0, .int .i64 x3_2] rfl (by (try simp only [List.map_toArray, List.map_cons, List.map_nil]); first | done | rfl | (simp only [List.length_drop, List.length_take]; rfl)) ?_; (with_reducible refine (colloquyref14_size.calls k2 a0 x3_2 t123 _ A6.out).mono ?_); rintro e w' ⟨rfl, ⟨nd, rfl⟩⟩; refine ⟨_, rfl, ?_⟩))
                go_ret
                exact ⟨by first | rfl | (simp; done) | (simp [*]; done), by repeat (first | exact Drawn0.refl _ | apply Drawn0.step)⟩
              · rw [if_neg c7] at H
                have c7b0 : (t123 == 0) = false := beq_eq_false_iff_ne.mpr c7
                have c7b1 : (t123 != 0) = true := bne_iff_ne.mpr c7
                by_cases c8 : 0 ≤ x3_2
                · rw [if_pos c8] at H
                  have c8b0 : decide (0 ≤ x3_2) = true := decide_eq_true c8
                  clear c8
                  by_cases c10 : (bt a0 x3_2) < 32
                  · rw [if_pos c10] at H
                    have c10b0 : decide ((bt a0 x3_2) < 32) = true := decide_eq_true c10
                    clear c10
                    obtain rfl := Option.some.inj H
                    go_wp2_with (first | ((with_reducible refine gate_callee (f := 31) rfl ?_); refine goesL_ (some 19) rfl rfl Tryd.func31 (by kernel_rfl) rfl #[.string a0, .int .i64 x3_2] rfl (by (try simp only [List.map_toArray, List.map_cons, List.map_nil]); first | done | rfl | (simp only [List.length_drop, List.length_take]; rfl)) ?_; (with_reducible refine (colloquyref14_size.calls k2 a0 x3_2 t123 _ A6.out).mono ?_); rintro e w' ⟨rfl, ⟨nd, rfl⟩⟩; refine ⟨_, rfl, ?_⟩; have p9 : 0 ≤ (x3_2 : Int) := of_decide_eq_true (by first | (with_reducible assumption) | assumption); have q9 : x3_2 < (a0.size : Int) := of_decide_eq_true (by first | (with_reducible assumption) | assumption); have hx9 := bt_at a0 x3_2; replace p9 := eq_true p9; replace q9 := eq_true q9))
                    go_ret
                    exact ⟨by first | rfl | (simp; done) | (simp [*]; done), by repeat (first | exact Drawn0.refl _ | apply Drawn0.step)⟩
                  · rw [if_neg c10] at H
                    have c10b0 : decide ((bt a0 x3_2) < 32) = false := decide_eq_false c10
                    clear c10
                    by_cases c12 : (bt a0 x3_2) = 127
                    · rw [if_pos c12] at H
                      have c12b0 : ((bt a0 x3_2) == 127) = true := beq_iff_eq.mpr c12
                      have c12b1 : ((bt a0 x3_2) != 127) = false := bne_eq_false_iff_eq.mpr c12
                      clear c12
                      obtain rfl := Option.some.inj H
                      go_wp2_with (first | ((with_reducible refine gate_callee (f := 31) rfl ?_); refine goesL_ (some 19) rfl rfl Tryd.func31 (by kernel_rfl) rfl #[.string a0, .int .i64 x3_2] rfl (by (try simp only [List.map_toArray, List.map_cons, List.map_nil]); first | done | rfl | (simp only [List.length_drop, List.length_take]; rfl)) ?_; (with_reducible refine (colloquyref14_size.calls k2 a0 x3_2 t123 _ A6.out).mono ?_); rintro e w' ⟨rfl, ⟨nd, rfl⟩⟩; refine ⟨_, rfl, ?_⟩; have p9 : 0 ≤ (x3_2 : Int) := of_decide_eq_true (by first | (with_reducible assumption) | assumption); have q9 : x3_2 < (a0.size : Int) := of_decide_eq_true (by first | (with_reducible assumption) | assumption); have hx9 := bt_at a0 x3_2; replace p9 := eq_true p9; replace q9 := eq_true q9; have p11 : 0 ≤ (x3_2 : Int) := of_decide_eq_true (by first | (with_reducible assumption) | assumption); have q11 : x3_2 < (a0.size : Int) := of_decide_eq_true (by first | (with_reducible assumption) | assumption); have hx11 := bt_at a0 x3_2; replace p11 := eq_true p11; replace q11 := eq_true q11))
                      go_ret
                      exact ⟨by first | rfl | (simp; done) | (simp [*]; done), by repeat (first | exact Drawn0.refl _ | apply Drawn0.step)⟩
                    · rw [if_neg c12] at H
                      have c12b0 : ((bt a0 x3_2) == 127) = false := beq_eq_false_iff_ne.mpr c12
                      have c12b1 : ((bt a0 x3_2) != 127) = true := bne_iff_ne.mpr c12
                      have H' := Aside0.mk H
                      clear H
                      go_wp2_with (first | ((with_reducible refine gate_callee (f := 31) rfl ?_); refine goesL_ (some 19) rfl rfl Tryd.func31 (by kernel_rfl) rfl #[.string a0, .int .i64 x3_2] rfl (by (try simp only [List.map_toArray, List.map_cons, List.map_nil]); first | done | rfl | (simp only [List.length_drop, List.length_take]; rfl)) ?_; (with_reducible refine (colloquyref14_size.calls k2 a0 x3_2 t123 _ A6.out).mono ?_); rintro e w' ⟨rfl, ⟨nd, rfl⟩⟩; refine ⟨_, rfl, ?_⟩; have p9 : 0 ≤ (x3_2 : Int) := of_decide_eq_true (by first | (with_reducible assumption) | assumption); have q9 : x3_2 < (a0.size : Int) := of_decide_eq_true (by first | (with_reducible assumption) | assumption); have hx9 := bt_at a0 x3_2; replace p9 := eq_true p9; replace q9 := eq_true q9; have p11 : 0 ≤ (x3_2 : Int) := of_decide_eq_true (by first | (with_reducible assumption) | assumption); have q11 : x3_2 < (a0.size : Int) := of_decide_eq_true (by first | (with_reducible assumption) | assumption); have hx11 := bt_at a0 x3_2; replace p11 := eq_true p11; replace q11 := eq_true q11))
                      go_roundg k2
                      case measure => have := HJ1.out; have := HK2.out; omega
                      case rel => exact ⟨(wrap64 (x3_2 + t123)), (by first | rfl | (simp; done) | (simp [*]; done)), H', ⟨by have := HJ1.out; have := HK2.out; omega⟩, by repeat (first | exact Drawn0.refl _ | apply Drawn0.step)⟩
                · rw [if_neg c8] at H
                  exact absurd H (by simp)
            · rw [if_neg c5] at H
              have c5b0 : decide (x3_2 < (a0.size : Int)) = false := decide_eq_false c5
              clear c5
              obtain rfl := Option.some.inj H
              go_wp2
              go_ret
              exact ⟨by first | rfl | (simp; done) | (simp [*]; done), by repeat (first | exact Drawn0.refl _ | apply Drawn0.step)⟩

end Go.Proofs.YtifdlbdecjlnaaaDoor.PAll
