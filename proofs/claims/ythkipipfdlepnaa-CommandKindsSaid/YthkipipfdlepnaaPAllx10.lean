/- The machine's side of this claim, written by a program of this session out of the translation: for each Go function a Lean function of its answers, and the proof that the code comes to just these. Conditions: those that each theorem states. -/
import Derived.Test.YthkipipfdlepnaaPAllx0
namespace Go.Proofs.Ythkipipfdlepnaa.PAll
open Go.RowKit Go.Proofs.YthkipipfdlepnaaW.PrintWords Go.Proofs.YthkipipfdlepnaaW.PrintLast Go.Proofs.YthkipipfdlepnaaW.PrintMore
attribute [local go_sem] max2_int min2_int max_two min_two max_three min_three max_four min_four   -- for this text's walks alone
set_option linter.unusedVariables false
set_option linter.unusedSimpArgs false

/-! ### vlq_Get: function 31 -/
def vlq_Get.l0 : Nat → List Int → Int → Int → Option (Int × Int × Int)
  | 0, _, _, _ => none
  | k + 1, b, n, i => if i = (b.length : Int) then (some (0, 0, 3)) else (if 0 ≤ i then (if i < (b.length : Int) then (if i = 0 ∧ rd b i = 128 then (some (0, 0, 2)) else (if i = 7 ∧ rd b i ≥ 128 then (some (0, 0, 2)) else (if rd b i < 128 then (some (Go.bits .or .i64 (wrap64 (n * 128)) (wrap64 (Go.bits .and .u8 (rd b i) 127)), wrap64 (i + 1), 0)) else (vlq_Get.l0 k b (Go.bits .or .i64 (wrap64 (n * 128)) (wrap64 (Go.bits .and .u8 (rd b i) 127))) (wrap64 (i + 1)))))) else none) else none)
def vlq_Get.f (k : Nat) (l0 : List Int) : Option (Int × Int × Int) := vlq_Get.l0 k l0 0 0
theorem vlq_Get.mono_l : ∀ k b n i, LeO (vlq_Get.l0 k b n i) (vlq_Get.l0 (k + 1) b n i)
  | 0 => fun _ _ _ r h => by simp [vlq_Get.l0] at h
  | k + 1 => fun b n i => by
    unfold vlq_Get.l0
    exact LeO.ite (LeO.refl _) (LeO.ite (LeO.ite (LeO.ite (LeO.refl _) (LeO.ite (LeO.refl _) (LeO.ite (LeO.refl _) (vlq_Get.mono_l k _ _ _)))) (LeO.refl _)) (LeO.refl _))
theorem vlq_Get.mono : ∀ a0 k, LeO (vlq_Get.f k a0) (vlq_Get.f (k + 1) a0) := fun a0 k => vlq_Get.mono_l k a0 0 0
set_option maxHeartbeats 1000000 in
set_option maxRecDepth 100000 in
theorem vlq_Get.drawn (k : Nat) (A0 : Option Addr) (c0 : Nat) (l0 : List Int) (r1 r2 r3 : Int) (w : World) (hr0 : Kd.C (Kd.int .u8) w A0 l0.length l0) (hc0 : l0.length ≤ c0) (h : vlq_Get.f k l0 = some (r1, r2, r3)) :
    Calls Try.prog 31 #[.slice A0 l0.length c0] w fun e w' => e = .returned (.tuple #[.int .i64 r1, .int .i64 r2, .int .i64 r3]) ∧ Drawn0 w w' := by
  have HR0 := Aside0.mk hr0
  have HC0 := Aside0.mk hc0
  clear hr0 hc0
  have H : vlq_Get.l0 k l0 0 0 = some (r1, r2, r3) := h
  clear h
  have H' := Aside0.mk H
  clear H
  go_enter Try.func31, Try.ntmps31
  go_wp2
  go_step3
  go_wp2
  go_step3
  go_wp2
  go_loopg [5, 6] k (fun kq v5 v6 w' => ∃ (n i : Int), v5 = .int .i64 n ∧ v6 = .int .i64 i ∧ Aside0 (vlq_Get.l0 kq l0 n i = some (r1, r2, r3)) ∧ Aside0 (kq ≤ k) ∧ Aside0 (-1 < i) ∧ Drawn0 w w')
  case atStart => exact ⟨0, 0, rfl, rfl, H', ⟨Nat.le_refl _⟩, ⟨by decide⟩, Drawn0.refl _⟩
  case round =>
    obtain ⟨n, i, rfl, rfl, HA, HK1, HI, ⟨m1, rfl⟩⟩ := hrel
    clear H'
    cases gk with
    | zero => exact absurd HA.out (by simp [vlq_Get.l0])
    | succ k1 =>
      have H := HA.out
      clear HA
      simp only [vlq_Get.l0] at H
      by_cases c1 : i = (l0.length : Int)
      · rw [if_pos c1] at H
        simp only [Option.some.injEq, Prod.mk.injEq] at H
        obtain ⟨rfl, rfl, rfl⟩ := H
        have c1b : (i == (l0.length : Int)) = true := beq_iff_eq.mpr c1
        clear c1
        go_wp2
        rw [Exit.noGoto_ret]
        go_ret3
        exact ⟨rfl, by repeat (first | exact Drawn0.refl _ | apply Drawn0.step)⟩
      · rw [if_neg c1] at H
        have hc1b : (i == (l0.length : Int)) = false := beq_eq_false_iff_ne.mpr c1
        have c2 : 0 ≤ i := by have := HI.out; omega
        rw [if_pos c2] at H
        have c3 : i < (l0.length : Int) := by
          apply Classical.byContradiction
          intro c3
          rw [if_neg c3] at H
          cases H
        rw [if_pos c3] at H
        obtain ⟨ad, ea, hx⟩ := Kd.at_int HR0.out i c2 c3
        subst ea
        have hlen := HR0.out.2.1
        have HL := Aside0.mk hlen
        clear c1 hlen
        have d2 := Aside0.mk c2
        have d3 := Aside0.mk c3
        have e10 : Aside0 (wrap64 (i + 1) = i + 1) := ⟨by have := HL.out; unfold wrap64; omega⟩
        have e13 : wrap64 (wrap64 (i + 1) - 1) = i := by rw [e10.out]; have := HL.out; unfold wrap64; omega
        have qs : ((i == 0) = true ∧ (rd l0 i == 128) = true ∧ (0, 0, 2) = (r1, r2, r3)) ∨ (((i == 0) = false ∨ ((i == 0) = true ∧ (i == 7) = false ∧ (rd l0 i == 128) = false)) ∧
            (((i == 7) = true ∧ decide (rd l0 i ≥ 128) = true ∧ (0, 0, 2) = (r1, r2, r3)) ∨
              (((i == 7) = false ∨ ((i == 7) = true ∧ decide (rd l0 i ≥ 128) = false)) ∧
                ((decide (rd l0 i < 128) = true ∧ (Go.bits .or .i64 (wrap64 (n * 128)) (wrap64 (Go.bits .and .u8 (rd l0 i) 127)), wrap64 (i + 1), 0) = (r1, r2, r3)) ∨
                  (decide (rd l0 i < 128) = false ∧ vlq_Get.l0 k1 l0 (Go.bits .or .i64 (wrap64 (n * 128)) (wrap64 (Go.bits .and .u8 (rd l0 i) 127))) (wrap64 (i + 1)) = some (r1, r2, r3)))))) := by
          by_cases a1 : i = 0 ∧ rd l0 i = 128
          · rw [if_pos a1] at H
            exact .inl ⟨beq_iff_eq.mpr a1.1, beq_iff_eq.mpr a1.2, Option.some.inj H⟩
          · rw [if_neg a1] at H
            refine .inr ⟨?_, ?_⟩
            · by_cases z : i = 0
              · exact .inr ⟨beq_iff_eq.mpr z, beq_eq_false_iff_ne.mpr (by omega), beq_eq_false_iff_ne.mpr (fun y => a1 ⟨z, y⟩)⟩
              · exact .inl (beq_eq_false_iff_ne.mpr z)
            by_cases a2 : i = 7 ∧ rd l0 i ≥ 128
            · rw [if_pos a2] at H
              exact .inl ⟨beq_iff_eq.mpr a2.1, decide_eq_true a2.2, Option.some.inj H⟩
            · rw [if_neg a2] at H
              refine .inr ⟨?_, ?_⟩
              · by_cases z : i = 7
                · exact .inr ⟨beq_iff_eq.mpr z, decide_eq_false (fun y => a2 ⟨z, y⟩)⟩
                · exact .inl (beq_eq_false_iff_ne.mpr z)
              by_cases a3 : rd l0 i < 128
              · rw [if_pos a3] at H
                exact .inl ⟨decide_eq_true a3, Option.some.inj H⟩
              · rw [if_neg a3] at H
                exact .inr ⟨decide_eq_false a3, H⟩
        clear H
        replace c2 := eq_true c2
        replace c3 := eq_true c3
        rcases qs with ⟨q1, q2, q3⟩ | ⟨q1 | ⟨q1, qq, q2⟩, ⟨q3, q4, q5⟩ | ⟨q3 | ⟨q3, q4⟩, ⟨q5, q6⟩ | ⟨q5, q6⟩⟩⟩
        · cases q3
          go_wp2
          rw [Exit.noGoto_ret]
          go_ret3
          exact ⟨rfl, by repeat (first | exact Drawn0.refl _ | apply Drawn0.step)⟩
        · cases q5
          go_wp2
          rw [Exit.noGoto_ret]
          go_ret3
          exact ⟨rfl, by repeat (first | exact Drawn0.refl _ | apply Drawn0.step)⟩
        · cases q6
          go_wp2
          rw [Exit.noGoto_ret]
          go_ret3
          exact ⟨rfl, by repeat (first | exact Drawn0.refl _ | apply Drawn0.step)⟩
        · have HQ := Aside0.mk q6
          clear q6
          go_wp2
          go_roundg k1
          case measure => have := HK1.out; omega
          case rel => exact ⟨_, _, rfl, rfl, HQ, ⟨by have := HK1.out; omega⟩, ⟨by have := HI.out; have := e10.out; omega⟩, by repeat (first | exact Drawn0.refl _ | apply Drawn0.step)⟩
        · cases q6
          go_wp2
          rw [Exit.noGoto_ret]
          go_ret3
          exact ⟨rfl, by repeat (first | exact Drawn0.refl _ | apply Drawn0.step)⟩
        · have HQ := Aside0.mk q6
          clear q6
          go_wp2
          go_roundg k1
          case measure => have := HK1.out; omega
          case rel => exact ⟨_, _, rfl, rfl, HQ, ⟨by have := HK1.out; omega⟩, ⟨by have := HI.out; have := e10.out; omega⟩, by repeat (first | exact Drawn0.refl _ | apply Drawn0.step)⟩
        · rw [qq] at q3; cases q3
        · cases q6
          go_wp2
          rw [Exit.noGoto_ret]
          go_ret3
          exact ⟨rfl, by repeat (first | exact Drawn0.refl _ | apply Drawn0.step)⟩
        · have HQ := Aside0.mk q6
          clear q6
          go_wp2
          go_roundg k1
          case measure => have := HK1.out; omega
          case rel => exact ⟨_, _, rfl, rfl, HQ, ⟨by have := HK1.out; omega⟩, ⟨by have := HI.out; have := e10.out; omega⟩, by repeat (first | exact Drawn0.refl _ | apply Drawn0.step)⟩
        · rw [qq] at q3; cases q3
        · rw [qq] at q3; cases q3
theorem vlq_Get.calls (k : Nat) (A0 : Option Addr) (c0 : Nat) (l0 : List Int) (r1 r2 r3 : Int) (w : World) (hr0 : Kd.C (Kd.int .u8) w A0 l0.length l0) (hc0 : l0.length ≤ c0) (h : vlq_Get.f k l0 = some (r1, r2, r3)) :
    Calls Try.prog 31 #[.slice A0 l0.length c0] w fun e w' => e = .returned (.tuple #[.int .i64 r1, .int .i64 r2, .int .i64 r3]) ∧ Below w.heap.size w w' := by
  refine (vlq_Get.drawn k A0 c0 l0 r1 r2 r3 w hr0 hc0 h).mono ?_
  rintro e w' ⟨he, n, rfl⟩
  exact ⟨he, pw_below_drewN (Below.refl _ _) n⟩

-- NOT PRINTED: function 25 (command_reader_number)

-- NOT PRINTED: function 26 (command_reader_text)

end Go.Proofs.Ythkipipfdlepnaa.PAll
