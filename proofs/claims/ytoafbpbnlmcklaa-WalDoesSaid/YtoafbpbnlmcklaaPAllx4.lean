/- The machine's side of this claim, written by a program of this session out of the translation: for each Go function a Lean function of its answers, and the proof that the code comes to just these. Conditions: those that each theorem states. -/
import Derived.Test.YtoafbpbnlmcklaaPAllx0
namespace Go.Proofs.Ytoafbpbnlmcklaa.PAll
open Go.RowKit Go.Proofs.YtoafbpbnlmcklaaW.PrintWords Go.Proofs.YtoafbpbnlmcklaaW.PrintLast Go.Proofs.YtoafbpbnlmcklaaW.PrintMore
attribute [local go_sem] max2_int min2_int max_two min_two max_three min_three max_four min_four   -- for this text's walks alone
set_option linter.unusedVariables false
set_option linter.unusedSimpArgs false

/-! ### colloquylaw20_few: function 27 -/
def colloquylaw20_few.l0 : Nat → List (S56) → Int → Option (Bool)
  | 0, _, _ => none
  | k + 1, x0, x3 => if x3 < (x0.length : Int) then (if 0 ≤ x3 then (if (((rd_T56 x0 x3).f1).length : Int) > 1100 then (some false) else (if (((rd_T56 x0 x3).f2).length : Int) > 100 then (some false) else (colloquylaw20_few.l0 k x0 (wrap64 (x3 + 1))))) else (none)) else (some true)
def colloquylaw20_few.f (k : Nat) (l0 : List (S56)) : Option (Bool) := if (l0.length : Int) > 30 then (some false) else (colloquylaw20_few.l0 k l0 0)
theorem colloquylaw20_few.mono_l : ∀ k, (∀ y0 y1, LeO (colloquylaw20_few.l0 k y0 y1) (colloquylaw20_few.l0 (k + 1) y0 y1))
  | 0 => fun _ _ r h => by simp [colloquylaw20_few.l0] at h
  | k + 1 => by
    have ih0 := colloquylaw20_few.mono_l k
    · intro y0 y1
      unfold colloquylaw20_few.l0
      repeat' first
      | (with_reducible exact ih0 _ _)
      | (with_reducible exact LeO.refl _)
      | (with_reducible exact LeO.none _)
      | (with_reducible refine LeO.ite ?_ ?_)
      | (with_reducible refine LeO.bind ?_ (fun _ => ?_))
      | exact ih0 _ _
      | exact LeO.none _
      | refine LeO.ite ?_ ?_
      | refine LeO.bind ?_ (fun _ => ?_)
theorem colloquylaw20_few.mono : ∀ a0 k, LeO (colloquylaw20_few.f k a0) (colloquylaw20_few.f (k + 1) a0) := by
  intro a0 k
  have ih0 := colloquylaw20_few.mono_l k
  unfold colloquylaw20_few.f
  repeat' first
      | (with_reducible exact ih0 _ _)
      | (with_reducible exact LeO.refl _)
      | (with_reducible exact LeO.none _)
      | (with_reducible refine LeO.ite ?_ ?_)
      | (with_reducible refine LeO.bind ?_ (fun _ => ?_))
      | exact ih0 _ _
      | exact LeO.none _
      | refine LeO.ite ?_ ?_
      | refine LeO.bind ?_ (fun _ => ?_)
set_option maxHeartbeats 8000000 in
set_option maxRecDepth 100000 in
theorem colloquylaw20_few.calls (k : Nat) (A0 : Option Addr) (c0 : Nat) (l0 : List (S56)) (r : Bool) (w : World) (hr0 : Kd.C k56 w A0 l0.length l0) (hc0 : l0.length ≤ c0) (h : colloquylaw20_few.f k l0 = some r) :
    Calls Try.prog 27 #[.slice A0 l0.length c0] w fun e w' => e = .returned (.bool r) ∧ Drawn0 w w' := by
  have HR0 := Aside0.mk hr0
  have HC0 := Aside0.mk hc0
  clear hr0 hc0
  have H : (if (l0.length : Int) > 30 then (some false) else (colloquylaw20_few.l0 k l0 0)) = some r := h
  clear h
  by_cases c2 : (l0.length : Int) > 30
  · rw [if_pos c2] at H
    have c2b0 : decide (30 < (l0.length : Int)) = true := decide_eq_true c2
    have c2b1 : decide (30 < l0.length) = true := decide_eq_true (by omega)
    clear c2
    obtain rfl := Option.some.inj H
    go_enter Try.func27, Try.ntmps27
    go_wp2
    go_ret
    exact ⟨by first | rfl | (simp; done) | (simp [*]; done), by repeat (first | exact Drawn0.refl _ | apply Drawn0.step)⟩
  · rw [if_neg c2] at H
    have c2b0 : decide (30 < (l0.length : Int)) = false := decide_eq_false c2
    have c2b1 : decide (30 < l0.length) = false := decide_eq_false (by omega)
    clear c2
    have H' := Aside0.mk H
    clear H
    go_enter Try.func27, Try.ntmps27
    go_wp2
    go_loopg [3] k (fun kq v3 w' => ∃ (x3_1 : Int), v3 = .int .i64 x3_1 ∧ Aside0 (colloquylaw20_few.l0 kq l0 x3_1 = some r) ∧ Aside0 (kq ≤ k) ∧ Drawn0 w w')
    case atStart => exact ⟨(0), (by first | rfl | (simp; done) | (simp [*]; done)), H', ⟨Nat.le_refl _⟩, by repeat (first | exact Drawn0.refl _ | apply Drawn0.step)⟩
    case round =>
      clear H'
      try clear c2
      try clear c2b0
      try clear c2b1
      try clear p2
      obtain ⟨x3_1, rfl, HA, HK1, ⟨m1, rfl⟩⟩ := hrel
      cases gk with
      | zero => exact absurd HA.out (by simp [colloquylaw20_few.l0])
      | succ k1 =>
        have H := HA.out
        clear HA
        simp only [colloquylaw20_few.l0] at H
        by_cases c3 : x3_1 < (l0.length : Int)
        · rw [if_pos c3] at H
          have c3b0 : decide (x3_1 < (l0.length : Int)) = true := decide_eq_true c3
          clear c3
          by_cases c4 : 0 ≤ x3_1
          · rw [if_pos c4] at H
            have c4b0 : decide (0 ≤ x3_1) = true := decide_eq_true c4
            clear c4
            by_cases c5 : (((rd_T56 l0 x3_1).f1).length : Int) > 1100
            · rw [if_pos c5] at H
              have c5b0 : decide (1100 < (((rd_T56 l0 x3_1).f1).length : Int)) = true := decide_eq_true c5
              have c5b1 : decide (1100 < ((rd_T56 l0 x3_1).f1).length) = true := decide_eq_true (by omega)
              clear c5
              obtain rfl := Option.some.inj H
              have p175 : 0 ≤ (x3_1 : Int) := of_decide_eq_true (by first | (with_reducible assumption) | assumption)
              have q175 : x3_1 < (l0.length : Int) := of_decide_eq_true (by first | (with_reducible assumption) | assumption)
              obtain ⟨ad175, A175_1, c175_1, A175_2, c175_2, e175, hx175_0, hx175_1, hx175_2, hx175_3, hx175_4, hl175_1, hi175_1, hl175_2, hi175_2⟩ := at_T56 HR0.out x3_1 p175 q175
              cases e175
              have HR175_1 := Aside0.mk hi175_1
              have HC175_1 := Aside0.mk hl175_1
              clear hi175_1 hl175_1
              have HR175_2 := Aside0.mk hi175_2
              have HC175_2 := Aside0.mk hl175_2
              clear hi175_2 hl175_2
              replace p175 := eq_true p175
              replace q175 := eq_true q175
              go_wp2
              go_ret
              exact ⟨by first | rfl | (simp; done) | (simp [*]; done), by repeat (first | exact Drawn0.refl _ | apply Drawn0.step)⟩
            · rw [if_neg c5] at H
              have c5b0 : decide (1100 < (((rd_T56 l0 x3_1).f1).length : Int)) = false := decide_eq_false c5
              have c5b1 : decide (1100 < ((rd_T56 l0 x3_1).f1).length) = false := decide_eq_false (by omega)
              clear c5
              by_cases c6 : (((rd_T56 l0 x3_1).f2).length : Int) > 100
              · rw [if_pos c6] at H
                have c6b0 : decide (100 < (((rd_T56 l0 x3_1).f2).length : Int)) = true := decide_eq_true c6
                have c6b1 : decide (100 < ((rd_T56 l0 x3_1).f2).length) = true := decide_eq_true (by omega)
                clear c6
                obtain rfl := Option.some.inj H
                have p175 : 0 ≤ (x3_1 : Int) := of_decide_eq_true (by first | (with_reducible assumption) | assumption)
                have q175 : x3_1 < (l0.length : Int) := of_decide_eq_true (by first | (with_reducible assumption) | assumption)
                obtain ⟨ad175, A175_1, c175_1, A175_2, c175_2, e175, hx175_0, hx175_1, hx175_2, hx175_3, hx175_4, hl175_1, hi175_1, hl175_2, hi175_2⟩ := at_T56 HR0.out x3_1 p175 q175
                cases e175
                have HR175_1 := Aside0.mk hi175_1
                have HC175_1 := Aside0.mk hl175_1
                clear hi175_1 hl175_1
                have HR175_2 := Aside0.mk hi175_2
                have HC175_2 := Aside0.mk hl175_2
                clear hi175_2 hl175_2
                replace p175 := eq_true p175
                replace q175 := eq_true q175
                have p176 : 0 ≤ (x3_1 : Int) := of_decide_eq_true (by first | (with_reducible assumption) | assumption)
                have q176 : x3_1 < (l0.length : Int) := of_decide_eq_true (by first | (with_reducible assumption) | assumption)
                obtain ⟨ad176, A176_1, c176_1, A176_2, c176_2, e176, hx176_0, hx176_1, hx176_2, hx176_3, hx176_4, hl176_1, hi176_1, hl176_2, hi176_2⟩ := at_T56 HR0.out x3_1 p176 q176
                obtain rfl : ad175 = ad176 := (by injection e176)
                have HR176_1 := Aside0.mk hi176_1
                have HC176_1 := Aside0.mk hl176_1
                clear hi176_1 hl176_1
                have HR176_2 := Aside0.mk hi176_2
                have HC176_2 := Aside0.mk hl176_2
                clear hi176_2 hl176_2
                replace p176 := eq_true p176
                replace q176 := eq_true q176
                have ea_ := Option.some.inj (hx175_1.symm.trans hx176_1)
                injection ea_ with ea_ en_ ec_
                subst ea_
                subst ec_
                clear en_
                have ea_ := Option.some.inj (hx175_2.symm.trans hx176_2)
                injection ea_ with ea_ en_ ec_
                subst ea_
                subst ec_
                clear en_
                go_wp2
                go_ret
                exact ⟨by first | rfl | (simp; done) | (simp [*]; done), by repeat (first | exact Drawn0.refl _ | apply Drawn0.step)⟩
              · rw [if_neg c6] at H
                have c6b0 : decide (100 < (((rd_T56 l0 x3_1).f2).length : Int)) = false := decide_eq_false c6
                have c6b1 : decide (100 < ((rd_T56 l0 x3_1).f2).length) = false := decide_eq_false (by omega)
                clear c6
                have H' := Aside0.mk H
                clear H
                have p175 : 0 ≤ (x3_1 : Int) := of_decide_eq_true (by first | (with_reducible assumption) | assumption)
                have q175 : x3_1 < (l0.length : Int) := of_decide_eq_true (by first | (with_reducible assumption) | assumption)
                obtain ⟨ad175, A175_1, c175_1, A175_2, c175_2, e175, hx175_0, hx175_1, hx175_2, hx175_3, hx175_4, hl175_1, hi175_1, hl175_2, hi175_2⟩ := at_T56 HR0.out x3_1 p175 q175
                cases e175
                have HR175_1 := Aside0.mk hi175_1
                have HC175_1 := Aside0.mk hl175_1
                clear hi175_1 hl175_1
                have HR175_2 := Aside0.mk hi175_2
                have HC175_2 := Aside0.mk hl175_2
                clear hi175_2 hl175_2
                replace p175 := eq_true p175
                replace q175 := eq_true q175
                have p176 : 0 ≤ (x3_1 : Int) := of_decide_eq_true (by first | (with_reducible assumption) | assumption)
                have q176 : x3_1 < (l0.length : Int) := of_decide_eq_true (by first | (with_reducible assumption) | assumption)
                obtain ⟨ad176, A176_1, c176_1, A176_2, c176_2, e176, hx176_0, hx176_1, hx176_2, hx176_3, hx176_4, hl176_1, hi176_1, hl176_2, hi176_2⟩ := at_T56 HR0.out x3_1 p176 q176
                obtain rfl : ad175 = ad176 := (by injection e176)
                have HR176_1 := Aside0.mk hi176_1
                have HC176_1 := Aside0.mk hl176_1
                clear hi176_1 hl176_1
                have HR176_2 := Aside0.mk hi176_2
                have HC176_2 := Aside0.mk hl176_2
                clear hi176_2 hl176_2
                replace p176 := eq_true p176
                replace q176 := eq_true q176
                have ea_ := Option.some.inj (hx175_1.symm.trans hx176_1)
                injection ea_ with ea_ en_ ec_
                subst ea_
                subst ec_
                clear en_
                have ea_ := Option.some.inj (hx175_2.symm.trans hx176_2)
                injection ea_ with ea_ en_ ec_
                subst ea_
                subst ec_
                clear en_
                go_wp2
                go_roundg k1
                case measure => have := HK1.out; omega
                case rel => exact ⟨(wrap64 (x3_1 + 1)), (by first | rfl | (simp; done) | (simp [*]; done)), H', ⟨by have := HK1.out; omega⟩, by repeat (first | exact Drawn0.refl _ | apply Drawn0.step)⟩
          · rw [if_neg c4] at H
            exact absurd H (by simp)
        · rw [if_neg c3] at H
          have c3b0 : decide (x3_1 < (l0.length : Int)) = false := decide_eq_false c3
          clear c3
          obtain rfl := Option.some.inj H
          go_wp2
          go_ret
          exact ⟨by first | rfl | (simp; done) | (simp [*]; done), by repeat (first | exact Drawn0.refl _ | apply Drawn0.step)⟩

-- NOT PRINTED: function 28 (colloquyref20_Wal_Append)

-- NOT PRINTED: function 30 (colloquyref19_Disk_Crash)

-- NOT PRINTED: function 31 (colloquyref20_Wal_Room)

-- NOT PRINTED: function 8 (colloquylaw20_WalDoes)

end Go.Proofs.Ytoafbpbnlmcklaa.PAll
