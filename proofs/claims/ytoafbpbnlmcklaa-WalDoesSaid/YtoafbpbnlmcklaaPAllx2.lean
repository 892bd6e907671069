/- The machine's side of this claim, written by a program of this session out of the translation: for each Go function a Lean function of its answers, and the proof that the code comes to just these. Conditions: those that each theorem states. -/
import Derived.Test.YtoafbpbnlmcklaaPAllx0
namespace Go.Proofs.Ytoafbpbnlmcklaa.PAll
open Go.RowKit Go.Proofs.YtoafbpbnlmcklaaW.PrintWords Go.Proofs.YtoafbpbnlmcklaaW.PrintLast Go.Proofs.YtoafbpbnlmcklaaW.PrintMore
attribute [local go_sem] max2_int min2_int max_two min_two max_three min_three max_four min_four   -- for this text's walks alone
set_option linter.unusedVariables false
set_option linter.unusedSimpArgs false

/-! ### vlq_Get: function 43 -/
def vlq_Get.l0 : Nat → List Int → Int → Int → Option (Int × Int × Int)
  | 0, _, _, _ => none
  | k + 1, b, n, i => if i = (b.length : Int) then (some (0, 0, 3)) else (if 0 ≤ i then (if i < (b.length : Int) then (if i = 0 ∧ rd b i = 128 then (some (0, 0, 2)) else (if i = 7 ∧ rd b i ≥ 128 then (some (0, 0, 2)) else (if rd b i < 128 then (some (Go.bits .or .i64 (wrap64 (n * 128)) (wrap64 (Go.bits .and .u8 (rd b i) 127)), wrap64 (i + 1), 0)) else (vlq_Get.l0 k b (Go.bits .or .i64 (wrap64 (n * 128)) (wrap64 (Go.bits .and .u8 (rd b i) 127))) (wrap64 (i + 1)))))) else none) else none)
def vlq_Get.f (k : Nat) (l0 : List Int) : Option (Int × Int × Int) := vlq_Get.l0 k l0 0 0
theorem vlq_Get.mono_l : ∀ k b n i, LeO (vlq_Get.l0 k b n i) (vlq_Get.l0 (k + 1) b n i)
  | 0 => fun _ _ _ r h => by simp [vlq_Get.l0] at h
  | k + 1 => fun b n i => by
    unfold vlq_Get.l0
    exact LeO.ite (LeO.refl _) (LeO.ite (LeO.ite (LeO.ite (LeO.refl _) (LeO.ite (LeO.refl _) (LeO.ite (LeO.refl _) (vlq_Get.mono_l k _ _ _)))) (LeO.refl _)) (LeO.refl _))
theorem vlq_Get.mono : ∀ a0 k, LeO (vlq_Get.f k a0) (vlq_Get.f (k + 1) a0) := fun a0 k => vlq_Get.mono_l k a0 0 0
set_option maxHeartbeats 1000000 in
set_option maxRecDepth 100000 in
theorem vlq_Get.drawn (k : Nat) (A0 : Option Addr) (c0 : Nat) (l0 : List Int) (r1 r2 r3 : Int) (w : World) (hr0 : Kd.C (Kd.int .u8) w A0 l0.length l0) (hc0 : l0.length ≤ c0) (h : vlq_Get.f k l0 = some (r1, r2, r3)) :
    Calls Try.prog 43 #[.slice A0 l0.length c0] w fun e w' => e = .returned (.tuple #[.int .i64 r1, .int .i64 r2, .int .i64 r3]) ∧ Drawn0 w w' := by
  have HR0 := Aside0.mk hr0
  have HC0 := Aside0.mk hc0
  clear hr0 hc0
  have H : vlq_Get.l0 k l0 0 0 = some (r1, r2, r3) := h
  clear h
  have H' := Aside0.mk H
  clear H
  go_enter Try.func43, Try.ntmps43
  go_wp2
  go_step3
  go_wp2
  go_step3
  go_wp2
  go_loopg [5, 6] k (fun kq v5 v6 w' => ∃ (n i : Int), v5 = .int .i64 n ∧ v6 = .int .i64 i ∧ Aside0 (vlq_Get.l0 kq l0 n i = some (r1, r2, r3)) ∧ Aside0 (kq ≤ k) ∧ Aside0 (-1 < i) ∧ Drawn0 w w')
  case atStart => exact ⟨0, 0, rfl, rfl, H', ⟨Nat.le_refl _⟩, ⟨by decide⟩, Drawn0.refl _⟩
  case round =>
    obtain ⟨n, i, rfl, rfl, HA, HK1, HI, ⟨m1, rfl⟩⟩ := hrel
    clear H'
    cases gk with
    | zero => exact absurd HA.out (by simp [vlq_Get.l0])
    | succ k1 =>
      have H := HA.out
      clear HA
      simp only [vlq_Get.l0] at H
      by_cases c1 : i = (l0.length : Int)
      · rw [if_pos c1] at H
        simp only [Option.some.injEq, Prod.mk.injEq] at H
        obtain ⟨rfl, rfl, rfl⟩ := H
        have c1b : (i == (l0.length : Int)) = true := beq_iff_eq.mpr c1
        clear c1
        go_wp2
        rw [Exit.noGoto_ret]
        go_ret3
        exact ⟨rfl, by repeat (first | exact Drawn0.refl _ | apply Drawn0.step)⟩
      · rw [if_neg c1] at H
        have hc1b : (i == (l0.length : Int)) = false := beq_eq_false_iff_ne.mpr c1
        have c2 : 0 ≤ i := by have := HI.out; omega
        rw [if_pos c2] at H
        have c3 : i < (l0.length : Int) := by
          apply Classical.byContradiction
          intro c3
          rw [if_neg c3] at H
          cases H
        rw [if_pos c3] at H
        obtain ⟨ad, ea, hx⟩ := Kd.at_int HR0.out i c2 c3
        subst ea
        have hlen := HR0.out.2.1
        have HL := Aside0.mk hlen
        clear c1 hlen
        have d2 := Aside0.mk c2
        have d3 := Aside0.mk c3
        have e10 : Aside0 (wrap64 (i + 1) = i + 1) := ⟨by have := HL.out; unfold wrap64; omega⟩
        have e13 : wrap64 (wrap64 (i + 1) - 1) = i := by rw [e10.out]; have := HL.out; unfold wrap64; omega
        have qs : ((i == 0) = true ∧ (rd l0 i == 128) = true ∧ (0, 0, 2) = (r1, r2, r3)) ∨ (((i == 0) = false ∨ ((i == 0) = true ∧ (i == 7) = false ∧ (rd l0 i == 128) = false)) ∧
            (((i == 7) = true ∧ decide (rd l0 i ≥ 128) = true ∧ (0, 0, 2) = (r1, r2, r3)) ∨
              (((i == 7) = false ∨ ((i == 7) = true ∧ decide (rd l0 i ≥ 128) = false)) ∧
                ((decide (rd l0 i < 128) = true ∧ (Go.bits .or .i64 (wrap64 (n * 128)) (wrap64 (Go.bits .and .u8 (rd l0 i) 127)), wrap64 (i + 1), 0) = (r1, r2, r3)) ∨
                  (decide (rd l0 i < 128) = false ∧ vlq_Get.l0 k1 l0 (Go.bits .or .i64 (wrap64 (n * 128)) (wrap64 (Go.bits .and .u8 (rd l0 i) 127))) (wrap64 (i + 1)) = some (r1, r2, r3)))))) := by
          by_cases a1 : i = 0 ∧ rd l0 i = 128
          · rw [if_pos a1] at H
            exact .inl ⟨beq_iff_eq.mpr a1.1, beq_iff_eq.mpr a1.2, Option.some.inj H⟩
          · rw [if_neg a1] at H
            refine .inr ⟨?_, ?_⟩
            · by_cases z : i = 0
              · exact .inr ⟨beq_iff_eq.mpr z, beq_eq_false_iff_ne.mpr (by omega), beq_eq_false_iff_ne.mpr (fun y => a1 ⟨z, y⟩)⟩
              · exact .inl (beq_eq_false_iff_ne.mpr z)
            by_cases a2 : i = 7 ∧ rd l0 i ≥ 128
            · rw [if_pos a2] at H
              exact .inl ⟨beq_iff_eq.mpr a2.1, decide_eq_true a2.2, Option.some.inj H⟩
            · rw [if_neg a2] at H
              refine .inr ⟨?_, ?_⟩
              · by_cases z : i = 7
                · exact .inr ⟨beq_iff_eq.mpr z, decide_eq_false (fun y => a2 ⟨z, y⟩)⟩
                · exact .inl (beq_eq_false_iff_ne.mpr z)
              by_cases a3 : rd l0 i < 128
              · rw [if_pos a3] at H
                exact .inl ⟨decide_eq_true a3, Option.some.inj H⟩
              · rw [if_neg a3] at H
                exact .inr ⟨decide_eq_false a3, H⟩
        clear H
        replace c2 := eq_true c2
        replace c3 := eq_true c3
        rcases qs with ⟨q1, q2, q3⟩ | ⟨q1 | ⟨q1, qq, q2⟩, ⟨q3, q4, q5⟩ | ⟨q3 | ⟨q3, q4⟩, ⟨q5, q6⟩ | ⟨q5, q6⟩⟩⟩
        · cases q3
          go_wp2
          rw [Exit.noGoto_ret]
          go_ret3
          exact ⟨rfl, by repeat (first | exact Drawn0.refl _ | apply Drawn0.step)⟩
        · cases q5
          go_wp2
          rw [Exit.noGoto_ret]
          go_ret3
          exact ⟨rfl, by repeat (first | exact Drawn0.refl _ | apply Drawn0.step)⟩
        · cases q6
          go_wp2
          rw [Exit.noGoto_ret]
          go_ret3
          exact ⟨rfl, by repeat (first | exact Drawn0.refl _ | apply Drawn0.step)⟩
        · have HQ := Aside0.mk q6
          clear q6
          go_wp2
          go_roundg k1
          case measure => have := HK1.out; omega
          case rel => exact ⟨_, _, rfl, rfl, HQ, ⟨by have := HK1.out; omega⟩, ⟨by have := HI.out; have := e10.out; omega⟩, by repeat (first | exact Drawn0.refl _ | apply Drawn0.step)⟩
        · cases q6
          go_wp2
          rw [Exit.noGoto_ret]
          go_ret3
          exact ⟨rfl, by repeat (first | exact Drawn0.refl _ | apply Drawn0.step)⟩
        · have HQ := Aside0.mk q6
          clear q6
          go_wp2
          go_roundg k1
          case measure => have := HK1.out; omega
          case rel => exact ⟨_, _, rfl, rfl, HQ, ⟨by have := HK1.out; omega⟩, ⟨by have := HI.out; have := e10.out; omega⟩, by repeat (first | exact Drawn0.refl _ | apply Drawn0.step)⟩
        · rw [qq] at q3; cases q3
        · cases q6
          go_wp2
          rw [Exit.noGoto_ret]
          go_ret3
          exact ⟨rfl, by repeat (first | exact Drawn0.refl _ | apply Drawn0.step)⟩
        · have HQ := Aside0.mk q6
          clear q6
          go_wp2
          go_roundg k1
          case measure => have := HK1.out; omega
          case rel => exact ⟨_, _, rfl, rfl, HQ, ⟨by have := HK1.out; omega⟩, ⟨by have := HI.out; have := e10.out; omega⟩, by repeat (first | exact Drawn0.refl _ | apply Drawn0.step)⟩
        · rw [qq] at q3; cases q3
        · rw [qq] at q3; cases q3
theorem vlq_Get.calls (k : Nat) (A0 : Option Addr) (c0 : Nat) (l0 : List Int) (r1 r2 r3 : Int) (w : World) (hr0 : Kd.C (Kd.int .u8) w A0 l0.length l0) (hc0 : l0.length ≤ c0) (h : vlq_Get.f k l0 = some (r1, r2, r3)) :
    Calls Try.prog 43 #[.slice A0 l0.length c0] w fun e w' => e = .returned (.tuple #[.int .i64 r1, .int .i64 r2, .int .i64 r3]) ∧ Below w.heap.size w w' := by
  refine (vlq_Get.drawn k A0 c0 l0 r1 r2 r3 w hr0 hc0 h).mono ?_
  rintro e w' ⟨he, n, rfl⟩
  exact ⟨he, pw_below_drewN (Below.refl _ _) n⟩

-- NOT PRINTED: function 32 (wal_record)

-- NOT PRINTED: function 11 (wal_Open)

-- NOT PRINTED: function 12 (wal_Wal_Append)

-- NOT PRINTED: function 13 (wal_Wal_Used)

-- NOT PRINTED: function 17 (wal_Wal_Records)

-- NOT PRINTED: function 9 (colloquylaw20_awake)

/-! ### colloquyref20_Same: function 16 -/
def colloquyref20_Same.l0 : Nat → List (List Int) → List (List Int) → Int → Option (Bool)
  | 0, _, _, _ => none
  | k + 1, x0, x1, x5 => if x5 < (x0.length : Int) then (if 0 ≤ x5 then (if x5 < (x1.length : Int) then (if (strOfNums (rd_L1 x0 x5)).toList = (strOfNums (rd_L1 x1 x5)).toList then (colloquyref20_Same.l0 k x0 x1 (wrap64 (x5 + 1))) else (some false)) else (none)) else (none)) else (some true)
def colloquyref20_Same.f (k : Nat) (l0 : List (List Int)) (l1 : List (List Int)) : Option (Bool) := if (l0.length : Int) = (l1.length : Int) then (colloquyref20_Same.l0 k l0 l1 0) else (some false)
theorem colloquyref20_Same.mono_l : ∀ k, (∀ y0 y1 y2, LeO (colloquyref20_Same.l0 k y0 y1 y2) (colloquyref20_Same.l0 (k + 1) y0 y1 y2))
  | 0 => fun _ _ _ r h => by simp [colloquyref20_Same.l0] at h
  | k + 1 => by
    have ih0 := colloquyref20_Same.mono_l k
    · intro y0 y1 y2
      unfold colloquyref20_Same.l0
      repeat' first
      | (with_reducible exact ih0 _ _ _)
      | (with_reducible exact LeO.refl _)
      | (with_reducible exact LeO.none _)
      | (with_reducible refine LeO.ite ?_ ?_)
      | (with_reducible refine LeO.bind ?_ (fun _ => ?_))
      | exact ih0 _ _ _
      | exact LeO.none _
      | refine LeO.ite ?_ ?_
      | refine LeO.bind ?_ (fun _ => ?_)
theorem colloquyref20_Same.mono : ∀ a0 a1 k, LeO (colloquyref20_Same.f k a0 a1) (colloquyref20_Same.f (k + 1) a0 a1) := by
  intro a0 a1 k
  have ih0 := colloquyref20_Same.mono_l k
  unfold colloquyref20_Same.f
  repeat' first
      | (with_reducible exact ih0 _ _ _)
      | (with_reducible exact LeO.refl _)
      | (with_reducible exact LeO.none _)
      | (with_reducible refine LeO.ite ?_ ?_)
      | (with_reducible refine LeO.bind ?_ (fun _ => ?_))
      | exact ih0 _ _ _
      | exact LeO.none _
      | refine LeO.ite ?_ ?_
      | refine LeO.bind ?_ (fun _ => ?_)
set_option maxHeartbeats 8000000 in
set_option maxRecDepth 100000 in
theorem colloquyref20_Same.calls (k : Nat) (A0 : Option Addr) (c0 : Nat) (l0 : List (List Int)) (A1 : Option Addr) (c1 : Nat) (l1 : List (List Int)) (r : Bool) (w : World) (hr0 : Kd.C (Kd.slice 5 (Kd.int .u8)) w A0 l0.length l0) (hc0 : l0.length ≤ c0) (hr1 : Kd.C (Kd.slice 5 (Kd.int .u8)) w A1 l1.length l1) (hc1 : l1.length ≤ c1) (h : colloquyref20_Same.f k l0 l1 = some r) :
    Calls Try.prog 16 #[.slice A0 l0.length c0, .slice A1 l1.length c1] w fun e w' => e = .returned (.bool r) ∧ Drawn0 w w' := by
  have HR0 := Aside0.mk hr0
  have HC0 := Aside0.mk hc0
  clear hr0 hc0
  have HR1 := Aside0.mk hr1
  have HC1 := Aside0.mk hc1
  clear hr1 hc1
  have H : (if (l0.length : Int) = (l1.length : Int) then (colloquyref20_Same.l0 k l0 l1 0) else (some false)) = some r := h
  clear h
  by_cases c3 : (l0.length : Int) = (l1.length : Int)
  · rw [if_pos c3] at H
    have c3b0 : ((l0.length : Int) == (l1.length : Int)) = true := beq_iff_eq.mpr c3
    have c3b1 : ((l0.length : Int) != (l1.length : Int)) = false := bne_eq_false_iff_eq.mpr c3
    have c3b2 : (l0.length == l1.length) = true := by first | simpa using c3 | (simp at c3 ⊢; omega)
    clear c3
    have H' := Aside0.mk H
    clear H
    go_enter Try.func16, Try.ntmps16
    go_wp2
    repeat (go_quiet (fail); try go_wp2)
    go_loopg [5] k (fun kq v5 w' => ∃ (x5_1 : Int), v5 = .int .i64 x5_1 ∧ Aside0 (colloquyref20_Same.l0 kq l0 l1 x5_1 = some r) ∧ Aside0 (kq ≤ k) ∧ Drawn0 w w')
    case atStart => exact ⟨(0), (by first | rfl | (simp; done) | (simp [*]; done)), H', ⟨Nat.le_refl _⟩, by repeat (first | exact Drawn0.refl _ | apply Drawn0.step)⟩
    case round =>
      clear H'
      try clear c1
      try clear p2
      try clear c3
      try clear c3b0
      try clear c3b1
      try clear c3b2
      obtain ⟨x5_1, rfl, HA, HK1, ⟨m1, rfl⟩⟩ := hrel
      cases gk with
      | zero => exact absurd HA.out (by simp [colloquyref20_Same.l0])
      | succ k1 =>
        have H := HA.out
        clear HA
        simp only [colloquyref20_Same.l0] at H
        by_cases c4 : x5_1 < (l0.length : Int)
        · rw [if_pos c4] at H
          have c4b0 : decide (x5_1 < (l0.length : Int)) = true := decide_eq_true c4
          clear c4
          by_cases c5 : 0 ≤ x5_1
          · rw [if_pos c5] at H
            have c5b0 : decide (0 ≤ x5_1) = true := decide_eq_true c5
            clear c5
            by_cases c6 : x5_1 < (l1.length : Int)
            · rw [if_pos c6] at H
              have c6b0 : decide (x5_1 < (l1.length : Int)) = true := decide_eq_true c6
              clear c6
              by_cases c7 : (strOfNums (rd_L1 l0 x5_1)).toList = (strOfNums (rd_L1 l1 x5_1)).toList
              · rw [if_pos c7] at H
                have c7b0 : ((strOfNums (rd_L1 l0 x5_1)).toList == (strOfNums (rd_L1 l1 x5_1)).toList) = true := beq_iff_eq.mpr c7
                have c7b1 : ((strOfNums (rd_L1 l0 x5_1)).toList != (strOfNums (rd_L1 l1 x5_1)).toList) = false := bne_eq_false_iff_eq.mpr c7
                clear c7
                have H' := Aside0.mk H
                clear H
                have p122 : 0 ≤ (x5_1 : Int) := of_decide_eq_true (by first | (with_reducible assumption) | assumption)
                have q122 : x5_1 < (l0.length : Int) := of_decide_eq_true (by first | (with_reducible assumption) | assumption)
                obtain ⟨ad122, A122_0, c122_0, e122, hx122_0, hl122_0, hi122_0⟩ := at_L1 HR0.out x5_1 p122 q122
                cases e122
                have HR122_0 := Aside0.mk hi122_0
                have HC122_0 := Aside0.mk hl122_0
                clear hi122_0 hl122_0
                replace p122 := eq_true p122
                replace q122 := eq_true q122
                have hcv8 := Kd.C_string (P := Try.prog) (A := A122_0) (c := c122_0) Try.underlying28 Try.underlying5 Try.underlying9 HR122_0.out
                (try have hcvq9 := fun nq_ => Kd.C_string (P := Try.prog) (A := A122_0) (c := c122_0) Try.underlying28 Try.underlying5 Try.underlying9 (Kd.C_drewN (HR122_0.out) nq_))
                have p123 : 0 ≤ (x5_1 : Int) := of_decide_eq_true (by first | (with_reducible assumption) | assumption)
                have q123 : x5_1 < (l1.length : Int) := of_decide_eq_true (by first | (with_reducible assumption) | assumption)
                obtain ⟨ad123, A123_0, c123_0, e123, hx123_0, hl123_0, hi123_0⟩ := at_L1 HR1.out x5_1 p123 q123
                cases e123
                have HR123_0 := Aside0.mk hi123_0
                have HC123_0 := Aside0.mk hl123_0
                clear hi123_0 hl123_0
                replace p123 := eq_true p123
                replace q123 := eq_true q123
                have hcv11 := Kd.C_string (P := Try.prog) (A := A123_0) (c := c123_0) Try.underlying28 Try.underlying5 Try.underlying9 HR123_0.out
                (try have hcvq12 := fun nq_ => Kd.C_string (P := Try.prog) (A := A123_0) (c := c123_0) Try.underlying28 Try.underlying5 Try.underlying9 (Kd.C_drewN (HR123_0.out) nq_))
                go_wp2
                repeat (go_quiet (fail); try go_wp2)
                go_roundg k1
                case measure => have := HK1.out; omega
                case rel => exact ⟨(wrap64 (x5_1 + 1)), (by first | rfl | (simp; done) | (simp [*]; done)), H', ⟨by have := HK1.out; omega⟩, by repeat (first | exact Drawn0.refl _ | apply Drawn0.step)⟩
              · rw [if_neg c7] at H
                have c7b0 : ((strOfNums (rd_L1 l0 x5_1)).toList == (strOfNums (rd_L1 l1 x5_1)).toList) = false := beq_eq_false_iff_ne.mpr c7
                have c7b1 : ((strOfNums (rd_L1 l0 x5_1)).toList != (strOfNums (rd_L1 l1 x5_1)).toList) = true := bne_iff_ne.mpr c7
                obtain rfl := Option.some.inj H
                have p122 : 0 ≤ (x5_1 : Int) := of_decide_eq_true (by first | (with_reducible assumption) | assumption)
                have q122 : x5_1 < (l0.length : Int) := of_decide_eq_true (by first | (with_reducible assumption) | assumption)
                obtain ⟨ad122, A122_0, c122_0, e122, hx122_0, hl122_0, hi122_0⟩ := at_L1 HR0.out x5_1 p122 q122
                cases e122
                have HR122_0 := Aside0.mk hi122_0
                have HC122_0 := Aside0.mk hl122_0
                clear hi122_0 hl122_0
                replace p122 := eq_true p122
                replace q122 := eq_true q122
                have hcv14 := Kd.C_string (P := Try.prog) (A := A122_0) (c := c122_0) Try.underlying28 Try.underlying5 Try.underlying9 HR122_0.out
                (try have hcvq15 := fun nq_ => Kd.C_string (P := Try.prog) (A := A122_0) (c := c122_0) Try.underlying28 Try.underlying5 Try.underlying9 (Kd.C_drewN (HR122_0.out) nq_))
                have p123 : 0 ≤ (x5_1 : Int) := of_decide_eq_true (by first | (with_reducible assumption) | assumption)
                have q123 : x5_1 < (l1.length : Int) := of_decide_eq_true (by first | (with_reducible assumption) | assumption)
                obtain ⟨ad123, A123_0, c123_0, e123, hx123_0, hl123_0, hi123_0⟩ := at_L1 HR1.out x5_1 p123 q123
                cases e123
                have HR123_0 := Aside0.mk hi123_0
                have HC123_0 := Aside0.mk hl123_0
                clear hi123_0 hl123_0
                replace p123 := eq_true p123
                replace q123 := eq_true q123
                have hcv17 := Kd.C_string (P := Try.prog) (A := A123_0) (c := c123_0) Try.underlying28 Try.underlying5 Try.underlying9 HR123_0.out
                (try have hcvq18 := fun nq_ => Kd.C_string (P := Try.prog) (A := A123_0) (c := c123_0) Try.underlying28 Try.underlying5 Try.underlying9 (Kd.C_drewN (HR123_0.out) nq_))
                go_wp2
                repeat (go_quiet (fail); try go_wp2)
                go_ret
                exact ⟨by first | rfl | (simp; done) | (simp [*]; done), by repeat (first | exact Drawn0.refl _ | apply Drawn0.step)⟩
            · rw [if_neg c6] at H
              exact absurd H (by simp)
          · rw [if_neg c5] at H
            exact absurd H (by simp)
        · rw [if_neg c4] at H
          have c4b0 : decide (x5_1 < (l0.length : Int)) = false := decide_eq_false c4
          clear c4
          obtain rfl := Option.some.inj H
          go_wp2
          repeat (go_quiet (fail); try go_wp2)
          go_ret
          exact ⟨by first | rfl | (simp; done) | (simp [*]; done), by repeat (first | exact Drawn0.refl _ | apply Drawn0.step)⟩
  · rw [if_neg c3] at H
    have c3b0 : ((l0.length : Int) == (l1.length : Int)) = false := beq_eq_false_iff_ne.mpr c3
    have c3b1 : ((l0.length : Int) != (l1.length : Int)) = true := bne_iff_ne.mpr c3
    have c3b2 : (l0.length == l1.length) = false := by first | simpa using c3 | (simp at c3 ⊢; omega)
    obtain rfl := Option.some.inj H
    go_enter Try.func16, Try.ntmps16
    go_wp2
    repeat (go_quiet (fail); try go_wp2)
    go_ret
    exact ⟨by first | rfl | (simp; done) | (simp [*]; done), by repeat (first | exact Drawn0.refl _ | apply Drawn0.step)⟩

-- NOT PRINTED: function 3 (colloquylaw20_WalCut)

-- NOT PRINTED: function 18 (colloquyref19_New)

-- NOT PRINTED: function 19 (colloquyref19_Disk_Write)

-- NOT PRINTED: function 42 (colloquyref19_Disk_put)

-- NOT PRINTED: function 29 (colloquyref19_Disk_Sync)

-- NOT PRINTED: function 38 (colloquyref19_Disk_Read)

/-! ### colloquyref01_Size: function 51 -/
mutual
def colloquyref01_Size.j0 : Nat → Int → Bool → Option (Int)
  | 0, _, _ => none
  | k + 1, x0, x9 => if x9 = true then (some 0) else (colloquyref01_Size.l0 k x0 1)
def colloquyref01_Size.l0 : Nat → Int → Int → Option (Int)
  | 0, _, _ => none
  | k + 1, x0, x3 => if x0 ≥ 128 then (colloquyref01_Size.l0 k (wrap64 (Int.tdiv x0 128)) (wrap64 (x3 + 1))) else (some x3)
end
def colloquyref01_Size.f (k : Nat) (a0 : Int) : Option (Int) := if a0 < 0 then (colloquyref01_Size.j0 k a0 true) else (colloquyref01_Size.j0 k a0 (decide (a0 ≥ 72057594037927936)))
theorem colloquyref01_Size.mono_l : ∀ k, (∀ y0 y1, LeO (colloquyref01_Size.j0 k y0 y1) (colloquyref01_Size.j0 (k + 1) y0 y1)) ∧ (∀ y0 y1, LeO (colloquyref01_Size.l0 k y0 y1) (colloquyref01_Size.l0 (k + 1) y0 y1))
  | 0 => ⟨fun _ _ r h => by simp [colloquyref01_Size.j0] at h, fun _ _ r h => by simp [colloquyref01_Size.l0] at h⟩
  | k + 1 => by
    obtain ⟨ih0, ih1⟩ := colloquyref01_Size.mono_l k
    refine ⟨?_, ?_⟩
    · intro y0 y1
      unfold colloquyref01_Size.j0
      repeat' first
      | (with_reducible exact ih0 _ _)
      | (with_reducible exact ih1 _ _)
      | (with_reducible exact LeO.refl _)
      | (with_reducible exact LeO.none _)
      | (with_reducible refine LeO.ite ?_ ?_)
      | (with_reducible refine LeO.bind ?_ (fun _ => ?_))
      | exact ih0 _ _
      | exact ih1 _ _
      | exact LeO.none _
      | refine LeO.ite ?_ ?_
      | refine LeO.bind ?_ (fun _ => ?_)
    · intro y0 y1
      unfold colloquyref01_Size.l0
      repeat' first
      | (with_reducible exact ih0 _ _)
      | (with_reducible exact ih1 _ _)
      | (with_reducible exact LeO.refl _)
      | (with_reducible exact LeO.none _)
      | (with_reducible refine LeO.ite ?_ ?_)
      | (with_reducible refine LeO.bind ?_ (fun _ => ?_))
      | exact ih0 _ _
      | exact ih1 _ _
      | exact LeO.none _
      | refine LeO.ite ?_ ?_
      | refine LeO.bind ?_ (fun _ => ?_)
theorem colloquyref01_Size.mono : ∀ a0 k, LeO (colloquyref01_Size.f k a0) (colloquyref01_Size.f (k + 1) a0) := by
  intro a0 k
  obtain ⟨ih0, ih1⟩ := colloquyref01_Size.mono_l k
  unfold colloquyref01_Size.f
  repeat' first
      | (with_reducible exact ih0 _ _)
      | (with_reducible exact ih1 _ _)
      | (with_reducible exact LeO.refl _)
      | (with_reducible exact LeO.none _)
      | (with_reducible refine LeO.ite ?_ ?_)
      | (with_reducible refine LeO.bind ?_ (fun _ => ?_))
      | exact ih0 _ _
      | exact ih1 _ _
      | exact LeO.none _
      | refine LeO.ite ?_ ?_
      | refine LeO.bind ?_ (fun _ => ?_)
set_option maxHeartbeats 8000000 in
set_option maxRecDepth 100000 in
theorem colloquyref01_Size.calls (k : Nat) (a0 : Int) (r : Int) (w : World) (h : colloquyref01_Size.f k a0 = some r) :
    Calls Try.prog 51 #[.int .i64 a0] w fun e w' => e = .returned (.int .i64 r) ∧ Drawn0 w w' := by
  have H : (if a0 < 0 then (colloquyref01_Size.j0 k a0 true) else (colloquyref01_Size.j0 k a0 (decide (a0 ≥ 72057594037927936)))) = some r := h
  clear h
  have HC2 := Aside0.mk H
  clear H
  go_enter Try.func51, Try.ntmps51
  go_upto_region 1 with (fail)
  go_cut [9] (fun v9 wc => ∃ (kq : Nat) (x9_1 : Bool), v9 = .bool x9_1 ∧ Aside0 (colloquyref01_Size.j0 kq a0 x9_1 = some r) ∧ Aside0 (kq ≤ k) ∧ Drawn0 w wc)
  case first =>
    have H := HC2.out
    clear HC2
    by_cases c3 : a0 < 0
    · rw [if_pos c3] at H
      have c3b0 : decide (a0 < 0) = true := decide_eq_true c3
      clear c3
      (first | rw [c3b0] | (simp only [i64_w, i32_w]; rw [c3b0]) | skip)
      have H' := Aside0.mk H
      clear H
      go_wp2
      go_meet
      case rel => exact ⟨_, (true), (by first | rfl | (simp; done) | (simp [*]; done)), H', ⟨by first | omega | exact Nat.le_refl _⟩, by repeat (first | exact Drawn0.refl _ | apply Drawn0.step)⟩
    · rw [if_neg c3] at H
      have c3b0 : decide (a0 < 0) = false := decide_eq_false c3
      clear c3
      (first | rw [c3b0] | (simp only [i64_w, i32_w]; rw [c3b0]) | skip)
      have H' := Aside0.mk H
      clear H
      go_wp2
      go_meet
      case rel => exact ⟨_, (decide (a0 ≥ 72057594037927936)), (by first | rfl | (simp; done) | (simp [*]; done)), H', ⟨by first | omega | exact Nat.le_refl _⟩, by repeat (first | exact Drawn0.refl _ | apply Drawn0.step)⟩
  case rest =>
    clear HC2
    try clear p2
    try clear c3
    try clear c3b0
    obtain ⟨kq, x9_1, rfl, HA, HJ1, ⟨mc1, rfl⟩⟩ := hcut
    cases kq with
    | zero => exact absurd HA.out (by simp [colloquyref01_Size.j0])
    | succ kj1 =>
      have H := HA.out
      clear HA
      simp only [colloquyref01_Size.j0] at H
      by_cases c4 : x9_1 = true
      · subst c4
        have H1 : (some 0) = some r := by rw [if_pos rfl] at H; exact H
        clear H
        have H := H1
        clear H1
        obtain rfl := Option.some.inj H
        go_wp2
        go_ret
        exact ⟨by first | rfl | (simp; done) | (simp [*]; done), by repeat (first | exact Drawn0.refl _ | apply Drawn0.step)⟩
      · replace c4 := Bool.eq_false_iff.mpr c4
        subst c4
        have H1 : (colloquyref01_Size.l0 kj1 a0 1) = some r := by rw [if_neg (show ¬ (false = true) by decide)] at H; exact H
        clear H
        have H := H1
        clear H1
        have H' := Aside0.mk H
        clear H
        go_wp2
        go_loopg [0, 3] kj1 (fun kq v0 v3 w' => ∃ (x0_2 : Int) (x3_2 : Int), v0 = .int .i64 x0_2 ∧ v3 = .int .i64 x3_2 ∧ Aside0 (colloquyref01_Size.l0 kq x0_2 x3_2 = some r) ∧ Aside0 (kq ≤ kj1) ∧ Drawn0 w w')
        case atStart => exact ⟨(a0), (1), (by first | rfl | (simp; done) | (simp [*]; done)), (by first | rfl | (simp; done) | (simp [*]; done)), H', ⟨Nat.le_refl _⟩, by repeat (first | exact Drawn0.refl _ | apply Drawn0.step)⟩
        case round =>
          clear H'
          try clear c1
          try clear p2
          try clear c3
          try clear c3b0
          try clear c4
          try clear p2
          obtain ⟨x0_2, x3_2, rfl, rfl, HA, HK2, ⟨m2, rfl⟩⟩ := hrel
          cases gk with
          | zero => exact absurd HA.out (by simp [colloquyref01_Size.l0])
          | succ k2 =>
            have H := HA.out
            clear HA
            simp only [colloquyref01_Size.l0] at H
            by_cases c5 : x0_2 ≥ 128
            · rw [if_pos c5] at H
              have c5b0 : decide (128 ≤ x0_2) = true := decide_eq_true c5
              clear c5
              have H' := Aside0.mk H
              clear H
              go_wp2
              go_roundg k2
              case measure => have := HJ1.out; have := HK2.out; omega
              case rel => exact ⟨(wrap64 (Int.tdiv x0_2 128)), (wrap64 (x3_2 + 1)), (by first | rfl | (simp; done) | (simp [*]; done)), (by first | rfl | (simp; done) | (simp [*]; done)), H', ⟨by have := HJ1.out; have := HK2.out; omega⟩, by repeat (first | exact Drawn0.refl _ | apply Drawn0.step)⟩
            · rw [if_neg c5] at H
              have c5b0 : decide (128 ≤ x0_2) = false := decide_eq_false c5
              clear c5
              obtain rfl := Option.some.inj H
              go_wp2
              go_ret
              exact ⟨by first | rfl | (simp; done) | (simp [*]; done), by repeat (first | exact Drawn0.refl _ | apply Drawn0.step)⟩

/-! ### colloquyref01_Put: function 47 -/
def colloquyref01_Put.l0 : Nat → Int → Int → List Int → Int → Option (List Int × Int)
  | 0, _, _, _, _ => none
  | k + 1, x0, x4, x5, x6 => if x6 < x4 then (if 0 ≤ (wrap64 ((wrap64 (x4 - 1)) - x6)) then (if (wrap64 ((wrap64 (x4 - 1)) - x6)) < (x5.length : Int) then ((some (x5.set ((wrap64 ((wrap64 (x4 - 1)) - x6)) : Int).toNat ((Int.tmod x0 128) % 256) : List Int)).bind fun y150 => (if x6 > 0 then (colloquyref01_Put.l0 k (wrap64 (Int.tdiv x0 128)) x4 (y150.set ((wrap64 ((wrap64 (x4 - 1)) - x6)) : Int).toNat (((rd y150 (wrap64 ((wrap64 (x4 - 1)) - x6))) + 128) % 256)) (wrap64 (x6 + 1))) else (colloquyref01_Put.l0 k (wrap64 (Int.tdiv x0 128)) x4 y150 (wrap64 (x6 + 1))))) else (none)) else (none)) else (some (x5, 0))
def colloquyref01_Put.f (k : Nat) (a0 : Int) : Option (List Int × Int) := (colloquyref01_Size.f k a0).bind fun t146 => (if t146 = 0 then (some (([] : List Int), 1)) else (if 0 ≤ t146 then (if (t146 : Int).toNat ≤ 281474976710656 then (colloquyref01_Put.l0 k a0 t146 (List.replicate (t146 : Int).toNat 0) 0) else (none)) else (none)))
theorem colloquyref01_Put.mono_l : ∀ k, (∀ y0 y1 y2 y3, LeO (colloquyref01_Put.l0 k y0 y1 y2 y3) (colloquyref01_Put.l0 (k + 1) y0 y1 y2 y3))
  | 0 => fun _ _ _ _ r h => by simp [colloquyref01_Put.l0] at h
  | k + 1 => by
    have ih0 := colloquyref01_Put.mono_l k
    · intro y0 y1 y2 y3
      unfold colloquyref01_Put.l0
      repeat' first
      | (with_reducible exact ih0 _ _ _ _)
      | (with_reducible exact colloquyref01_Size.mono _ _)
      | (with_reducible exact LeO.refl _)
      | (with_reducible exact LeO.none _)
      | (with_reducible refine LeO.ite ?_ ?_)
      | (with_reducible refine LeO.bind ?_ (fun _ => ?_))
      | exact ih0 _ _ _ _
      | exact colloquyref01_Size.mono _ _
      | exact LeO.none _
      | refine LeO.ite ?_ ?_
      | refine LeO.bind ?_ (fun _ => ?_)
theorem colloquyref01_Put.mono : ∀ a0 k, LeO (colloquyref01_Put.f k a0) (colloquyref01_Put.f (k + 1) a0) := by
  intro a0 k
  have ih0 := colloquyref01_Put.mono_l k
  unfold colloquyref01_Put.f
  repeat' first
      | (with_reducible exact ih0 _ _ _ _)
      | (with_reducible exact colloquyref01_Size.mono _ _)
      | (with_reducible exact LeO.refl _)
      | (with_reducible exact LeO.none _)
      | (with_reducible refine LeO.ite ?_ ?_)
      | (with_reducible refine LeO.bind ?_ (fun _ => ?_))
      | exact ih0 _ _ _ _
      | exact colloquyref01_Size.mono _ _
      | exact LeO.none _
      | refine LeO.ite ?_ ?_
      | refine LeO.bind ?_ (fun _ => ?_)
set_option maxHeartbeats 8000000 in
set_option maxRecDepth 100000 in
theorem colloquyref01_Put.calls (k : Nat) (a0 : Int) (r1 : List Int) (r2 : Int) (w : World) (h : colloquyref01_Put.f k a0 = some (r1, r2)) :
    Calls Try.prog 47 #[.int .i64 a0] w fun e w' => ∃ v0_ : Value, e = .returned (.tuple #[v0_, .int .i64 r2]) ∧ Kd.R (Kd.int .u8) 5 w' w.heap.size (fun _ => True) v0_ r1 ∧ Below w.heap.size w w' := by
  have HB := Aside0.mk (Below.refl w.heap.size w)
  have H : ((colloquyref01_Size.f k a0).bind fun t146 => (if t146 = 0 then (some (([] : List Int), 1)) else (if 0 ≤ t146 then (if (t146 : Int).toNat ≤ 281474976710656 then (colloquyref01_Put.l0 k a0 t146 (List.replicate (t146 : Int).toNat 0) 0) else (none)) else (none)))) = some (r1, r2) := h
  clear h
  replace H := Option.bind_eq_some_iff.mp H
  obtain ⟨t146, A20, H⟩ := H
  replace H : (if t146 = 0 then (some (([] : List Int), 1)) else (if 0 ≤ t146 then (if (t146 : Int).toNat ≤ 281474976710656 then (colloquyref01_Put.l0 k a0 t146 (List.replicate (t146 : Int).toNat 0) 0) else (none)) else (none))) = some (r1, r2) := H
  have A2 := Aside0.mk A20
  clear A20
  by_cases c3 : t146 = 0
  · rw [if_pos c3] at H
    have c3b0 : (t146 == 0) = true := beq_iff_eq.mpr c3
    have c3b1 : (t146 != 0) = false := bne_eq_false_iff_eq.mpr c3
    clear c3
    simp only [Option.some.injEq, Prod.mk.injEq] at H
    obtain ⟨rfl, rfl⟩ := H
    go_enter Try.func47, Try.ntmps47
    go_wp2_with (first | ((with_reducible refine gate_callee (f := 51) rfl ?_); refine goesL_ (some 8) rfl rfl Try.func51 (by kernel_rfl) rfl #[.int .i64 a0] rfl (by (try simp only [List.map_toArray, List.map_cons, List.map_nil]); first | done | rfl | (simp only [List.length_drop, List.length_take]; rfl)) ?_; (with_reducible refine (colloquyref01_Size.calls k a0 t146 _ A2.out).mono ?_); rintro e w' ⟨rfl, ⟨nd, rfl⟩⟩; refine ⟨_, rfl, ?_⟩))
    go_ret2
    exact ⟨_, by first | rfl | (simp [errW_none, errW_some] <;> rfl) | (simp [*, errW_none, errW_some] <;> rfl), by first | exact Kd.R_nil _ _ _ _ _ | exact Kd.N_nil _ _ _ _ _ | exact Kd.V_nil _ _ _ _ _ | exact Kd.Q_nil _ _ _ _ _ | exact Kd.S_nil _ _ _ _ _, by repeat (first | (with_reducible first | exact HB.out | apply below_alloc | apply pw_below_drewN | apply below_drew1) | exact HB.out)⟩
  · rw [if_neg c3] at H
    have c3b0 : (t146 == 0) = false := beq_eq_false_iff_ne.mpr c3
    have c3b1 : (t146 != 0) = true := bne_iff_ne.mpr c3
    by_cases c4 : 0 ≤ t146
    · rw [if_pos c4] at H
      have c4b0 := eq_true c4
      have c4b1 : decide (0 ≤ t146) = true := decide_eq_true c4
      clear c4
      by_cases c5 : (t146 : Int).toNat ≤ 281474976710656
      · rw [if_pos c5] at H
        have c5b0 := eq_true c5
        have c5b1 : decide ((t146 : Int).toNat ≤ 281474976710656) = true := decide_eq_true c5
        clear c5
        obtain ⟨y147, hy147⟩ : ∃ y_ : List Int, y_ = (List.replicate (t146 : Int).toNat 0) := ⟨_, rfl⟩
        replace H : (colloquyref01_Put.l0 k a0 t146 y147 0) = some (r1, r2) := by first | (rw [hy147]; with_reducible exact H) | (have H2_ := (Option.bind_some _ _).symm.trans H; rw [hy147]; with_reducible exact H2_) | (have H2_ := (Option.bind_some _ _).symm.trans H; with_reducible exact H2_) | with_reducible exact H | (rw [hy147]; exact H) | exact H
        have Ny147 := Aside0.mk hy147
        clear hy147
        have H' := Aside0.mk H
        clear H
        go_enter Try.func47, Try.ntmps47
        go_wp2_with (first | ((with_reducible refine gate_callee (f := 51) rfl ?_); refine goesL_ (some 8) rfl rfl Try.func51 (by kernel_rfl) rfl #[.int .i64 a0] rfl (by (try simp only [List.map_toArray, List.map_cons, List.map_nil]); first | done | rfl | (simp only [List.length_drop, List.length_take]; rfl)) ?_; (with_reducible refine (colloquyref01_Size.calls k a0 t146 _ A2.out).mono ?_); rintro e w' ⟨rfl, ⟨nd, rfl⟩⟩; refine ⟨_, rfl, ?_⟩) | ((with_reducible refine gate_dst (N := 12) rfl ?_); refine Kd.R_make (Kd.int .u8) _ 5 rfl (N := 12) rfl 28 _ _ rfl t146 rfl rfl Try.underlying28 (.int .u8 0) 1 info5 rfl (by decide) (by omega) 0 (ok := fun _ => True) (okp := fun _ => True) rfl (fun _ hk => hk) trivial (of_decide_eq_true (by first | (with_reducible assumption) | assumption)) (Nat.le_trans (Nat.mul_le_mul_right _ (of_decide_eq_true (by first | (with_reducible assumption) | assumption) : t146.toNat ≤ 281474976710656)) (by omega)) (Below.refl _ _) (Nat.le_refl _) ?_; intro v148 w6 ho7 hb hg_ hnew_; clear hg_ hnew_; (first | rw [← Ny147.out] at ho7 | (simp only [Int.reduceToNat] at ho7; rw [← Ny147.out] at ho7)); have n0_ := Aside0.mk (Kd.R_lower ho7 (below_size (by repeat (first | (with_reducible first | exact HB.out | apply below_alloc | apply pw_below_drewN | apply below_drew1) | exact HB.out)))); have n1_ := Aside0.mk (below_step (by repeat (first | (with_reducible first | exact HB.out | apply below_alloc | apply pw_below_drewN | apply below_drew1) | exact HB.out)) hb); clear HB; have HO149 := n0_; have HB := n1_; clear n0_ n1_; clear hb ho7))
        go_loopg [0, 6] k (fun kq v0 v6 w' => ∃ (x0_1 : Int) (x5_1 : List Int) (x6_1 : Int), v0 = .int .i64 x0_1 ∧ v6 = .int .i64 x6_1 ∧ Aside0 (colloquyref01_Put.l0 kq x0_1 t146 x5_1 x6_1 = some (r1, r2)) ∧ Aside0 (kq ≤ k) ∧ Aside0 (Kd.R (Kd.int .u8) 5 w' w.heap.size (fun _ => True) v148 x5_1) ∧ Aside0 (Below w.heap.size w w'))
        case atStart => exact ⟨(a0), (y147), (0), (by first | rfl | (simp; done) | (simp [*]; done)), (by first | rfl | (simp; done) | (simp [*]; done)), H', ⟨Nat.le_refl _⟩, ⟨by (with_reducible repeat (first | apply Kd.R_alloc | apply Kd.R_drewN | apply Kd.R_drew)); exact HO149.out⟩, ⟨by repeat (first | (with_reducible first | exact HB.out | apply below_alloc | apply pw_below_drewN | apply below_drew1) | exact HB.out)⟩⟩
        case round =>
          clear H'
          try clear p2
          try clear c3
          try clear c3b0
          try clear c3b1
          try clear c4
          try clear c4b0
          try clear c4b1
          try clear c5
          try clear c5b0
          try clear c5b1
          obtain ⟨x0_1, x5_1, x6_1, rfl, rfl, HA, HK1, HO_5, HB⟩ := hrel
          cases gk with
          | zero => exact absurd HA.out (by simp [colloquyref01_Put.l0])
          | succ k1 =>
            have H := HA.out
            clear HA
            simp only [colloquyref01_Put.l0] at H
            by_cases c8 : x6_1 < t146
            · rw [if_pos c8] at H
              have c8b0 : decide (x6_1 < t146) = true := decide_eq_true c8
              clear c8
              obtain ⟨ji9, hji9⟩ : ∃ j_ : Int, (wrap64 ((wrap64 (t146 - 1)) - x6_1)) = j_ := ⟨_, rfl⟩
              replace H : (if 0 ≤ (ji9) then (if (ji9) < (x5_1.length : Int) then ((some (x5_1.set ((ji9) : Int).toNat ((Int.tmod x0_1 128) % 256) : List Int)).bind fun y150 => (if x6_1 > 0 then (colloquyref01_Put.l0 k1 (wrap64 (Int.tdiv x0_1 128)) t146 (y150.set ((ji9) : Int).toNat (((rd y150 (ji9)) + 128) % 256)) (wrap64 (x6_1 + 1))) else (colloquyref01_Put.l0 k1 (wrap64 (Int.tdiv x0_1 128)) t146 y150 (wrap64 (x6_1 + 1))))) else (none)) else (none)) = some (r1, r2) := by first | (rw [hji9] at H; exact H) | (simp only [hji9] at H ⊢; exact H)
              have hji9w : (IntKind.i64.wrap ((wrap64 (t146 - 1)) - x6_1)) = ji9 := (i64_w _).trans hji9
              by_cases c10 : 0 ≤ (ji9)
              · rw [if_pos c10] at H
                have c10b0 : decide (0 ≤ (ji9)) = true := decide_eq_true c10
                clear c10
                by_cases c11 : (ji9) < (x5_1.length : Int)
                · rw [if_pos c11] at H
                  have c11b0 : decide ((ji9) < (x5_1.length : Int)) = true := decide_eq_true c11
                  clear c11
                  obtain ⟨y150, hy150⟩ : ∃ y_ : List Int, y_ = (x5_1.set ((ji9) : Int).toNat ((Int.tmod x0_1 128) % 256)) := ⟨_, rfl⟩
                  replace H : (if x6_1 > 0 then (colloquyref01_Put.l0 k1 (wrap64 (Int.tdiv x0_1 128)) t146 (y150.set ((ji9) : Int).toNat (((rd y150 (ji9)) + 128) % 256)) (wrap64 (x6_1 + 1))) else (colloquyref01_Put.l0 k1 (wrap64 (Int.tdiv x0_1 128)) t146 y150 (wrap64 (x6_1 + 1)))) = some (r1, r2) := by first | (rw [hy150]; with_reducible exact H) | (have H2_ := (Option.bind_some _ _).symm.trans H; rw [hy150]; with_reducible exact H2_) | (have H2_ := (Option.bind_some _ _).symm.trans H; with_reducible exact H2_) | with_reducible exact H | (rw [hy150]; exact H) | exact H
                  have Ny150 := Aside0.mk hy150
                  clear hy150
                  by_cases c13 : x6_1 > 0
                  · rw [if_pos c13] at H
                    have c13b0 : decide (0 < x6_1) = true := decide_eq_true c13
                    clear c13
                    obtain ⟨y152, hy152⟩ : ∃ y_ : List Int, y_ = (y150.set ((ji9) : Int).toNat (((rd y150 (ji9)) + 128) % 256)) := ⟨_, rfl⟩
                    replace H : (colloquyref01_Put.l0 k1 (wrap64 (Int.tdiv x0_1 128)) t146 y152 (wrap64 (x6_1 + 1))) = some (r1, r2) := by first | (rw [hy152]; with_reducible exact H) | (have H2_ := (Option.bind_some _ _).symm.trans H; rw [hy152]; with_reducible exact H2_) | (have H2_ := (Option.bind_some _ _).symm.trans H; with_reducible exact H2_) | with_reducible exact H | (rw [hy152]; exact H) | exact H
                    have Ny152 := Aside0.mk hy152
                    clear hy152
                    have H' := Aside0.mk H
                    clear H
                    have p12 : 0 ≤ ((ji9) : Int) := of_decide_eq_true (by first | (with_reducible assumption) | assumption)
                    have q12 : ((ji9) : Int) < ((x5_1.length : Int) : Int) := of_decide_eq_true (by first | (with_reducible assumption) | assumption)
                    obtain ⟨go12, co12, eo12, gb12, gl12, cl12, HG12⟩ := Kd.R_form HO_5.out (by omega)
                    (first | cases eo12 | (injection eo12 with ea_ en_ ec_; (first | subst ea_ | (injection ea_ with ea_; subst ea_)); subst ec_; clear en_))
                    have GB12 := Aside0.mk gb12
                    have GG12 := Aside0.mk HG12
                    clear gb12 gl12 HG12
                    obtain ⟨hx12_0, hf12_0⟩ := Kd.R_celln 0 HO_5.out ((ji9) : Int) p12 q12
                    replace p12 := eq_true p12
                    replace q12 := eq_true q12
                    have HP15 := Kd.R_putg HO_5.out ((ji9) : Int) ((Int.tmod x0_1 128) % 256)
                    go_wp2_with (first | ((with_reducible refine gate_store (t := 5) (p := 26) rfl ?_); refine store_event (t := 5) (p := 26) (v := ?vo_w16) (w1 := (wr.setCell ⟨go12, ((ji9) : Int).toNat, none⟩ (.int .u8 ((Int.tmod x0_1 128) % 256)))) ?hg ?ho ?hn ?hr ?_; (case ho => rfl); (case hg => rfl); (case hn => rfl); (case hr => first | (go_simp; done) | (go_simp; rfl)); intro w16 hw; have hg : wr.grownBy w16 (some go12) := (by rw [hw]; exact HP15.2); have hp_ : Kd.R (Kd.int .u8) 5 w16 w.heap.size (fun _ => True) (.slice (some ⟨go12, 0, none⟩) x5_1.length co12) y150 := (by rw [hw, Ny150.out]; exact HP15.1); clear HP15; have n0_ := Aside0.mk (hp_); have n1_ := Aside0.mk ((by rw [hw]; exact below_set (HB.out) GB12.out : Below w.heap.size w w16)); clear HO_5; clear HB; have HO_5 := n0_; have HB := n1_; clear n0_ n1_; clear hg hw hp_; have p151 : 0 ≤ ((ji9) : Int) := of_decide_eq_true (by first | (with_reducible assumption) | assumption); have q151 : (ji9) < (y150.length : Int) := (by have h_ : ((ji9) : Int) < ((x5_1.length : Int) : Int) := of_decide_eq_true (by first | (with_reducible assumption) | assumption); first | (have e_ := (Kd.R_reads' HO_5.out).1; omega) | simpa only [Ny150.out, List.length_set] using h_); have ql151 : (((ji9) : Int) < ((x5_1.length : Int) : Int)) = True := eq_true (of_decide_eq_true (by first | (with_reducible assumption) | assumption)); obtain ⟨ad151, e151, hx151_0⟩ := Kd.at_int (Kd.R_reads' HO_5.out).2.2 (ji9) p151 q151; obtain rfl : (⟨go12, 0, none⟩ : Addr) = ad151 := (by injection e151); (first | simp only [add_plain] at hx151_0 | simp only [add_at] at hx151_0 | simp only [Addr.add, Nat.zero_add] at hx151_0 | skip); replace p151 := eq_true p151; replace q151 := eq_true q151; have p14 : 0 ≤ ((ji9) : Int) := of_decide_eq_true (by first | (with_reducible assumption) | assumption); have q14 : ((ji9) : Int) < ((x5_1.length : Int) : Int) := of_decide_eq_true (by first | (with_reducible assumption) | assumption); obtain ⟨hx14_0, hf14_0⟩ := Kd.R_celln 0 HO_5.out ((ji9) : Int) p14 q14; replace p14 := eq_true p14; replace q14 := eq_true q14; obtain ⟨hy17_, hz17_⟩ := Kd.R_celln 0 HO_5.out ((ji9) : Int) (of_decide_eq_true (by first | (with_reducible assumption) | assumption)) (of_decide_eq_true (by first | (with_reducible assumption) | assumption)); have HP17 := Kd.R_putg HO_5.out ((ji9) : Int) (((rd y150 (ji9)) + 128) % 256)) | ((with_reducible refine gate_store (t := 5) (p := 42) rfl ?_); refine store_event (t := 5) (p := 42) (v := ?vo_w18) (w1 := (w16.setCell ⟨go12, ((ji9) : Int).toNat, none⟩ (.int .u8 (((rd y150 (ji9)) + 128) % 256)))) ?hg ?ho ?hn ?hr ?_; (case ho => rfl); (case hg => rfl); (case hn => rfl); (case hr => first | (go_simp; done) | (go_simp; rfl)); intro w18 hw; have hg : w16.grownBy w18 (some go12) := (by rw [hw]; exact HP17.2); have hp_ : Kd.R (Kd.int .u8) 5 w18 w.heap.size (fun _ => True) (.slice (some ⟨go12, 0, none⟩) x5_1.length co12) y152 := (by rw [hw, Ny152.out]; exact HP17.1); clear HP17; have n0_ := Aside0.mk (hp_); have n1_ := Aside0.mk ((by rw [hw]; exact below_set (HB.out) GB12.out : Below w.heap.size w w18)); clear HO_5; clear HB; have HO_5 := n0_; have HB := n1_; clear n0_ n1_; clear hg hw hp_))
                    go_roundg k1
                    case measure => have := HK1.out; omega
                    case rel => exact ⟨(wrap64 (Int.tdiv x0_1 128)), (y152), (wrap64 (x6_1 + 1)), (by first | rfl | (simp; done) | (simp [*]; done)), (by first | rfl | (simp; done) | (simp [*]; done)), H', ⟨by have := HK1.out; omega⟩, ⟨by (with_reducible repeat (first | apply Kd.R_alloc | apply Kd.R_drewN | apply Kd.R_drew)); exact HO_5.out⟩, ⟨by repeat (first | (with_reducible first | exact HB.out | apply below_alloc | apply pw_below_drewN | apply below_drew1) | exact HB.out)⟩⟩
                  · rw [if_neg c13] at H
                    have c13b0 : decide (0 < x6_1) = false := decide_eq_false c13
                    clear c13
                    have H' := Aside0.mk H
                    clear H
                    have p12 : 0 ≤ ((ji9) : Int) := of_decide_eq_true (by first | (with_reducible assumption) | assumption)
                    have q12 : ((ji9) : Int) < ((x5_1.length : Int) : Int) := of_decide_eq_true (by first | (with_reducible assumption) | assumption)
                    obtain ⟨go12, co12, eo12, gb12, gl12, cl12, HG12⟩ := Kd.R_form HO_5.out (by omega)
                    (first | cases eo12 | (injection eo12 with ea_ en_ ec_; (first | subst ea_ | (injection ea_ with ea_; subst ea_)); subst ec_; clear en_))
                    have GB12 := Aside0.mk gb12
                    have GG12 := Aside0.mk HG12
                    clear gb12 gl12 HG12
                    obtain ⟨hx12_0, hf12_0⟩ := Kd.R_celln 0 HO_5.out ((ji9) : Int) p12 q12
                    replace p12 := eq_true p12
                    replace q12 := eq_true q12
                    have HP19 := Kd.R_putg HO_5.out ((ji9) : Int) ((Int.tmod x0_1 128) % 256)
                    go_wp2_with (first | ((with_reducible refine gate_store (t := 5) (p := 26) rfl ?_); refine store_event (t := 5) (p := 26) (v := ?vo_w20) (w1 := (wr.setCell ⟨go12, ((ji9) : Int).toNat, none⟩ (.int .u8 ((Int.tmod x0_1 128) % 256)))) ?hg ?ho ?hn ?hr ?_; (case ho => rfl); (case hg => rfl); (case hn => rfl); (case hr => first | (go_simp; done) | (go_simp; rfl)); intro w20 hw; have hg : wr.grownBy w20 (some go12) := (by rw [hw]; exact HP19.2); have hp_ : Kd.R (Kd.int .u8) 5 w20 w.heap.size (fun _ => True) (.slice (some ⟨go12, 0, none⟩) x5_1.length co12) y150 := (by rw [hw, Ny150.out]; exact HP19.1); clear HP19; have n0_ := Aside0.mk (hp_); have n1_ := Aside0.mk ((by rw [hw]; exact below_set (HB.out) GB12.out : Below w.heap.size w w20)); clear HO_5; clear HB; have HO_5 := n0_; have HB := n1_; clear n0_ n1_; clear hg hw hp_))
                    go_roundg k1
                    case measure => have := HK1.out; omega
                    case rel => exact ⟨(wrap64 (Int.tdiv x0_1 128)), (y150), (wrap64 (x6_1 + 1)), (by first | rfl | (simp; done) | (simp [*]; done)), (by first | rfl | (simp; done) | (simp [*]; done)), H', ⟨by have := HK1.out; omega⟩, ⟨by (with_reducible repeat (first | apply Kd.R_alloc | apply Kd.R_drewN | apply Kd.R_drew)); exact HO_5.out⟩, ⟨by repeat (first | (with_reducible first | exact HB.out | apply below_alloc | apply pw_below_drewN | apply below_drew1) | exact HB.out)⟩⟩
                · rw [if_neg c11] at H
                  exact absurd H (by simp)
              · rw [if_neg c10] at H
                exact absurd H (by simp)
            · rw [if_neg c8] at H
              have c8b0 : decide (x6_1 < t146) = false := decide_eq_false c8
              clear c8
              simp only [Option.some.injEq, Prod.mk.injEq] at H
              obtain ⟨rfl, rfl⟩ := H
              go_wp2
              go_ret2
              exact ⟨_, by first | rfl | (simp [errW_none, errW_some] <;> rfl) | (simp [*, errW_none, errW_some] <;> rfl), by (with_reducible repeat (first | apply Kd.R_alloc | apply Kd.R_drewN | apply Kd.R_drew)); exact HO_5.out, by repeat (first | (with_reducible first | exact HB.out | apply below_alloc | apply pw_below_drewN | apply below_drew1) | exact HB.out)⟩
      · rw [if_neg c5] at H
        exact absurd H (by simp)
    · rw [if_neg c4] at H
      exact absurd H (by simp)

end Go.Proofs.Ytoafbpbnlmcklaa.PAll
