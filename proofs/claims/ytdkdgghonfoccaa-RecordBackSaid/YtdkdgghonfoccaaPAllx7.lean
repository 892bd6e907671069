/- The machine's side of this claim, written by a program of this session out of the translation: for each Go function a Lean function of its answers, and the proof that the code comes to just these. Conditions: those that each theorem states. -/
import Derived.Test.YtdkdgghonfoccaaPAllx0
import Derived.Test.YtdkdgghonfoccaaPAllx3
namespace Go.Proofs.Ytdkdgghonfoccaa.PAll
open Go.RowKit Go.Proofs.YtdkdgghonfoccaaW.PrintWords Go.Proofs.YtdkdgghonfoccaaW.PrintLast Go.Proofs.YtdkdgghonfoccaaW.PrintMore
attribute [local go_sem] max2_int min2_int max_two min_two max_three min_three max_four min_four   -- for this text's walks alone
set_option linter.unusedVariables false
set_option linter.unusedSimpArgs false

/-! ### colloquyref01_Get: function 25 -/
mutual
def colloquyref01_Get.l0 : Nat → List Int → Int → Int → Option (Int × Int × Int)
  | 0, _, _, _ => none
  | k + 1, x0, x5, x6 => if x6 < 8 then (if x6 ≥ (x0.length : Int) then (some (0, 0, 3)) else (if 0 ≤ x6 then (if x6 < (x0.length : Int) then (if x6 = 0 then (if (wrap64 (rd x0 x6)) = 128 then (colloquyref01_Get.j1 k x0 x5 x6 (wrap64 (rd x0 x6)) true) else (if x6 = 7 then (colloquyref01_Get.j1 k x0 x5 x6 (wrap64 (rd x0 x6)) (decide ((wrap64 (rd x0 x6)) ≥ 128))) else (colloquyref01_Get.j1 k x0 x5 x6 (wrap64 (rd x0 x6)) false))) else (if x6 = 7 then (colloquyref01_Get.j1 k x0 x5 x6 (wrap64 (rd x0 x6)) (decide ((wrap64 (rd x0 x6)) ≥ 128))) else (colloquyref01_Get.j1 k x0 x5 x6 (wrap64 (rd x0 x6)) false))) else (none)) else (none))) else (some (0, 0, 2))
def colloquyref01_Get.j1 : Nat → List Int → Int → Int → Int → Bool → Option (Int × Int × Int)
  | 0, _, _, _, _, _ => none
  | k + 1, x0, x5, x6, x7, x34 => if x34 = true then (some (0, 0, 2)) else (if x7 < 128 then (some (wrap64 ((wrap64 (x5 * 128)) + x7), wrap64 (x6 + 1), 0)) else (colloquyref01_Get.l0 k x0 (wrap64 ((wrap64 ((wrap64 (x5 * 128)) + x7)) - 128)) (wrap64 (x6 + 1))))
end
def colloquyref01_Get.f (k : Nat) (l0 : List Int) : Option (Int × Int × Int) := colloquyref01_Get.l0 k l0 0 0
theorem colloquyref01_Get.mono_l : ∀ k, (∀ y0 y1 y2, LeO (colloquyref01_Get.l0 k y0 y1 y2) (colloquyref01_Get.l0 (k + 1) y0 y1 y2)) ∧ (∀ y0 y1 y2 y3 y4, LeO (colloquyref01_Get.j1 k y0 y1 y2 y3 y4) (colloquyref01_Get.j1 (k + 1) y0 y1 y2 y3 y4))
  | 0 => ⟨fun _ _ _ r h => by simp [colloquyref01_Get.l0] at h, fun _ _ _ _ _ r h => by simp [colloquyref01_Get.j1] at h⟩
  | k + 1 => by
    obtain ⟨ih0, ih1⟩ := colloquyref01_Get.mono_l k
    refine ⟨?_, ?_⟩
    · intro y0 y1 y2
      unfold colloquyref01_Get.l0
      repeat' first
      | (with_reducible exact ih0 _ _ _)
      | (with_reducible exact ih1 _ _ _ _ _)
      | (with_reducible exact LeO.refl _)
      | (with_reducible exact LeO.none _)
      | (with_reducible refine LeO.ite ?_ ?_)
      | (with_reducible refine LeO.bind ?_ (fun _ => ?_))
      | exact ih0 _ _ _
      | exact ih1 _ _ _ _ _
      | exact LeO.none _
      | refine LeO.ite ?_ ?_
      | refine LeO.bind ?_ (fun _ => ?_)
    · intro y0 y1 y2 y3 y4
      unfold colloquyref01_Get.j1
      repeat' first
      | (with_reducible exact ih0 _ _ _)
      | (with_reducible exact ih1 _ _ _ _ _)
      | (with_reducible exact LeO.refl _)
      | (with_reducible exact LeO.none _)
      | (with_reducible refine LeO.ite ?_ ?_)
      | (with_reducible refine LeO.bind ?_ (fun _ => ?_))
      | exact ih0 _ _ _
      | exact ih1 _ _ _ _ _
      | exact LeO.none _
      | refine LeO.ite ?_ ?_
      | refine LeO.bind ?_ (fun _ => ?_)
theorem colloquyref01_Get.mono : ∀ a0 k, LeO (colloquyref01_Get.f k a0) (colloquyref01_Get.f (k + 1) a0) := by
  intro a0 k
  obtain ⟨ih0, ih1⟩ := colloquyref01_Get.mono_l k
  unfold colloquyref01_Get.f
  repeat' first
      | (with_reducible exact ih0 _ _ _)
      | (with_reducible exact ih1 _ _ _ _ _)
      | (with_reducible exact LeO.refl _)
      | (with_reducible exact LeO.none _)
      | (with_reducible refine LeO.ite ?_ ?_)
      | (with_reducible refine LeO.bind ?_ (fun _ => ?_))
      | exact ih0 _ _ _
      | exact ih1 _ _ _ _ _
      | exact LeO.none _
      | refine LeO.ite ?_ ?_
      | refine LeO.bind ?_ (fun _ => ?_)
set_option maxHeartbeats 8000000 in
set_option maxRecDepth 100000 in
theorem colloquyref01_Get.calls (k : Nat) (A0 : Option Addr) (c0 : Nat) (l0 : List Int) (r1 : Int) (r2 : Int) (r3 : Int) (w : World) (hr0 : Kd.C (Kd.int .u8) w A0 l0.length l0) (hc0 : l0.length ≤ c0) (h : colloquyref01_Get.f k l0 = some (r1, r2, r3)) :
    Calls Try.prog 25 #[.slice A0 l0.length c0] w fun e w' => e = .returned (.tuple #[.int .i64 r1, .int .i64 r2, .int .i64 r3]) ∧ Drawn0 w w' := by
  have HR0 := Aside0.mk hr0
  have HC0 := Aside0.mk hc0
  clear hr0 hc0
  have H : (colloquyref01_Get.l0 k l0 0 0) = some (r1, r2, r3) := h
  clear h
  have H' := Aside0.mk H
  clear H
  go_enter Try.func25, Try.ntmps25
  go_wp2
  go_loopg [5, 6] k (fun kq v5 v6 w' => ∃ (x5_1 : Int) (x6_1 : Int), v5 = .int .i64 x5_1 ∧ v6 = .int .i64 x6_1 ∧ Aside0 (colloquyref01_Get.l0 kq l0 x5_1 x6_1 = some (r1, r2, r3)) ∧ Aside0 (kq ≤ k) ∧ Drawn0 w w')
  case atStart => exact ⟨(0), (0), (by first | rfl | (simp; done) | (simp [*]; done)), (by first | rfl | (simp; done) | (simp [*]; done)), H', ⟨Nat.le_refl _⟩, by repeat (first | exact Drawn0.refl _ | apply Drawn0.step)⟩
  case round =>
    clear H'
    obtain ⟨x5_1, x6_1, rfl, rfl, HA, HK1, ⟨m1, rfl⟩⟩ := hrel
    cases gk with
    | zero => exact absurd HA.out (by simp [colloquyref01_Get.l0])
    | succ k1 =>
      have H := HA.out
      clear HA
      simp only [colloquyref01_Get.l0] at H
      by_cases c2 : x6_1 < 8
      · rw [if_pos c2] at H
        have c2b0 : decide (x6_1 < 8) = true := decide_eq_true c2
        clear c2
        by_cases c3 : x6_1 ≥ (l0.length : Int)
        · rw [if_pos c3] at H
          have c3b0 : decide ((l0.length : Int) ≤ x6_1) = true := decide_eq_true c3
          clear c3
          simp only [Option.some.injEq, Prod.mk.injEq] at H
          obtain ⟨rfl, rfl, rfl⟩ := H
          go_wp2
          go_ret3
          exact ⟨by first | rfl | (simp; done) | (simp [*]; done), by repeat (first | exact Drawn0.refl _ | apply Drawn0.step)⟩
        · rw [if_neg c3] at H
          have c3b0 : decide ((l0.length : Int) ≤ x6_1) = false := decide_eq_false c3
          clear c3
          by_cases c4 : 0 ≤ x6_1
          · rw [if_pos c4] at H
            have c4b0 : decide (0 ≤ x6_1) = true := decide_eq_true c4
            clear c4
            by_cases c5 : x6_1 < (l0.length : Int)
            · rw [if_pos c5] at H
              have c5b0 : decide (x6_1 < (l0.length : Int)) = true := decide_eq_true c5
              clear c5
              have HC6 := Aside0.mk H
              clear H
              have p271 : 0 ≤ (x6_1 : Int) := of_decide_eq_true (by first | (with_reducible assumption) | assumption)
              have q271 : x6_1 < (l0.length : Int) := of_decide_eq_true (by first | (with_reducible assumption) | assumption)
              obtain ⟨ad271, e271, hx271_0⟩ := Kd.at_int HR0.out x6_1 p271 q271
              cases e271
              replace p271 := eq_true p271
              replace q271 := eq_true q271
              go_upto_region 8 with (fail)
              go_cut [34] (fun v34 wc => ∃ (kq : Nat) (x34_5 : Bool), v34 = .bool x34_5 ∧ Aside0 (colloquyref01_Get.j1 kq l0 x5_1 x6_1 (wrap64 (rd l0 x6_1)) x34_5 = some (r1, r2, r3)) ∧ Aside0 (kq ≤ k1) ∧ Drawn0 w wc)
              case first =>
                have H := HC6.out
                clear HC6
                by_cases c7 : x6_1 = 0
                · rw [if_pos c7] at H
                  have c7b0 : (x6_1 == 0) = true := beq_iff_eq.mpr c7
                  have c7b1 : (x6_1 != 0) = false := bne_eq_false_iff_eq.mpr c7
                  clear c7
                  (first | rw [c7b0] | (simp only [i64_w, i32_w]; rw [c7b0]) | skip)
                  by_cases c8 : (wrap64 (rd l0 x6_1)) = 128
                  · rw [if_pos c8] at H
                    have c8b0 : ((wrap64 (rd l0 x6_1)) == 128) = true := beq_iff_eq.mpr c8
                    have c8b1 : ((wrap64 (rd l0 x6_1)) != 128) = false := bne_eq_false_iff_eq.mpr c8
                    clear c8
                    have H' := Aside0.mk H
                    clear H
                    go_wp2
                    go_meet
                    case rel => exact ⟨_, (true), (by first | rfl | (simp; done) | (simp [*]; done)), H', ⟨by have := HK1.out; first | omega | exact Nat.le_refl _⟩, by repeat (first | exact Drawn0.refl _ | apply Drawn0.step)⟩
                  · rw [if_neg c8] at H
                    have c8b0 : ((wrap64 (rd l0 x6_1)) == 128) = false := beq_eq_false_iff_ne.mpr c8
                    have c8b1 : ((wrap64 (rd l0 x6_1)) != 128) = true := bne_iff_ne.mpr c8
                    by_cases c9 : x6_1 = 7
                    · rw [if_pos c9] at H
                      have c9b0 : (x6_1 == 7) = true := beq_iff_eq.mpr c9
                      have c9b1 : (x6_1 != 7) = false := bne_eq_false_iff_eq.mpr c9
                      clear c9
                      have H' := Aside0.mk H
                      clear H
                      go_wp2
                      go_meet
                      case rel => exact ⟨_, (decide ((wrap64 (rd l0 x6_1)) ≥ 128)), (by first | rfl | (simp; done) | (simp [*]; done)), H', ⟨by have := HK1.out; first | omega | exact Nat.le_refl _⟩, by repeat (first | exact Drawn0.refl _ | apply Drawn0.step)⟩
                    · rw [if_neg c9] at H
                      have c9b0 : (x6_1 == 7) = false := beq_eq_false_iff_ne.mpr c9
                      have c9b1 : (x6_1 != 7) = true := bne_iff_ne.mpr c9
                      have H' := Aside0.mk H
                      clear H
                      go_wp2
                      go_meet
                      case rel => exact ⟨_, (false), (by first | rfl | (simp; done) | (simp [*]; done)), H', ⟨by have := HK1.out; first | omega | exact Nat.le_refl _⟩, by repeat (first | exact Drawn0.refl _ | apply Drawn0.step)⟩
                · rw [if_neg c7] at H
                  have c7b0 : (x6_1 == 0) = false := beq_eq_false_iff_ne.mpr c7
                  have c7b1 : (x6_1 != 0) = true := bne_iff_ne.mpr c7
                  (first | rw [c7b0] | (simp only [i64_w, i32_w]; rw [c7b0]) | skip)
                  by_cases c10 : x6_1 = 7
                  · rw [if_pos c10] at H
                    have c10b0 : (x6_1 == 7) = true := beq_iff_eq.mpr c10
                    have c10b1 : (x6_1 != 7) = false := bne_eq_false_iff_eq.mpr c10
                    clear c10
                    have H' := Aside0.mk H
                    clear H
                    go_wp2
                    go_meet
                    case rel => exact ⟨_, (decide ((wrap64 (rd l0 x6_1)) ≥ 128)), (by first | rfl | (simp; done) | (simp [*]; done)), H', ⟨by have := HK1.out; first | omega | exact Nat.le_refl _⟩, by repeat (first | exact Drawn0.refl _ | apply Drawn0.step)⟩
                  · rw [if_neg c10] at H
                    have c10b0 : (x6_1 == 7) = false := beq_eq_false_iff_ne.mpr c10
                    have c10b1 : (x6_1 != 7) = true := bne_iff_ne.mpr c10
                    have H' := Aside0.mk H
                    clear H
                    go_wp2
                    go_meet
                    case rel => exact ⟨_, (false), (by first | rfl | (simp; done) | (simp [*]; done)), H', ⟨by have := HK1.out; first | omega | exact Nat.le_refl _⟩, by repeat (first | exact Drawn0.refl _ | apply Drawn0.step)⟩
              case rest =>
                clear HC6
                try clear c1
                try clear c2
                try clear c2b0
                try clear p2
                try clear q2
                try clear hx2
                try clear c3
                try clear c3b0
                try clear c4
                try clear c4b0
                try clear c5
                try clear c5b0
                try clear p6
                try clear c7
                try clear c7b0
                try clear c7b1
                try clear c8
                try clear c8b0
                try clear c8b1
                try clear c9
                try clear c9b0
                try clear c9b1
                try clear c10
                try clear c10b0
                try clear c10b1
                try clear hx271_0
                try clear p271
                try clear q271
                obtain ⟨kq, x34_5, rfl, HA, HJ5, ⟨mc5, rfl⟩⟩ := hcut
                cases kq with
                | zero => exact absurd HA.out (by simp [colloquyref01_Get.j1])
                | succ kj5 =>
                  have H := HA.out
                  clear HA
                  simp only [colloquyref01_Get.j1] at H
                  by_cases c11 : x34_5 = true
                  · subst c11
                    have H1 : (some (0, 0, 2)) = some (r1, r2, r3) := by rw [if_pos rfl] at H; exact H
                    clear H
                    have H := H1
                    clear H1
                    simp only [Option.some.injEq, Prod.mk.injEq] at H
                    obtain ⟨rfl, rfl, rfl⟩ := H
                    go_wp2
                    go_ret3
                    exact ⟨by first | rfl | (simp; done) | (simp [*]; done), by repeat (first | exact Drawn0.refl _ | apply Drawn0.step)⟩
                  · replace c11 := Bool.eq_false_iff.mpr c11
                    subst c11
                    have H1 : (if (wrap64 (rd l0 x6_1)) < 128 then (some (wrap64 ((wrap64 (x5_1 * 128)) + (wrap64 (rd l0 x6_1))), wrap64 (x6_1 + 1), 0)) else (colloquyref01_Get.l0 kj5 l0 (wrap64 ((wrap64 ((wrap64 (x5_1 * 128)) + (wrap64 (rd l0 x6_1)))) - 128)) (wrap64 (x6_1 + 1)))) = some (r1, r2, r3) := by rw [if_neg (show ¬ (false = true) by decide)] at H; exact H
                    clear H
                    have H := H1
                    clear H1
                    by_cases c12 : (wrap64 (rd l0 x6_1)) < 128
                    · rw [if_pos c12] at H
                      have c12b0 : decide ((wrap64 (rd l0 x6_1)) < 128) = true := decide_eq_true c12
                      clear c12
                      simp only [Option.some.injEq, Prod.mk.injEq] at H
                      obtain ⟨rfl, rfl, rfl⟩ := H
                      go_wp2
                      go_ret3
                      exact ⟨by first | rfl | (simp; done) | (simp [*]; done), by repeat (first | exact Drawn0.refl _ | apply Drawn0.step)⟩
                    · rw [if_neg c12] at H
                      have c12b0 : decide ((wrap64 (rd l0 x6_1)) < 128) = false := decide_eq_false c12
                      clear c12
                      have H' := Aside0.mk H
                      clear H
                      go_wp2
                      go_roundg kj5
                      case measure => have := HK1.out; have := HJ5.out; omega
                      case rel => exact ⟨(wrap64 ((wrap64 ((wrap64 (x5_1 * 128)) + (wrap64 (rd l0 x6_1)))) - 128)), (wrap64 (x6_1 + 1)), (by first | rfl | (simp; done) | (simp [*]; done)), (by first | rfl | (simp; done) | (simp [*]; done)), H', ⟨by have := HK1.out; have := HJ5.out; omega⟩, by repeat (first | exact Drawn0.refl _ | apply Drawn0.step)⟩
            · rw [if_neg c5] at H
              exact absurd H (by simp)
          · rw [if_neg c4] at H
            exact absurd H (by simp)
      · rw [if_neg c2] at H
        have c2b0 : decide (x6_1 < 8) = false := decide_eq_false c2
        clear c2
        simp only [Option.some.injEq, Prod.mk.injEq] at H
        obtain ⟨rfl, rfl, rfl⟩ := H
        go_wp2
        go_ret3
        exact ⟨by first | rfl | (simp; done) | (simp [*]; done), by repeat (first | exact Drawn0.refl _ | apply Drawn0.step)⟩

/-! ### colloquyref03_Get: function 14 -/
def RefTold (w : World) (kind : Int) (body : List Int) (n e : Int) (x : Ending) (w' : World) : Prop :=
  ∃ v1_ : Value, x = .returned (.tuple #[.agg #[.int .i64 kind, v1_], .int .i64 n, .int .i64 e]) ∧ Kd.R (Kd.int .u8) 5 w' w.heap.size (fun _ => True) v1_ body ∧ Below w.heap.size w w'
def world2 (w : World) : World := (w.alloc (.cells #[.int .i64 0, .slice none 0 0] 24)).alloc (.cells #[.int .i64 0, .slice none 0 0] 24)
theorem world2_below (w : World) : Below w.heap.size w (world2 w) := below_alloc (below_alloc (Below.refl _ _) _) _
theorem below2 {w w' : World} (h : Below (world2 w).heap.size (world2 w) w') : Below w.heap.size w w' := below_then (w1 := world2 w) (world2_below w) (world2_below w).size h
theorem world2_res {w w' : World} (h : Below (world2 w).heap.size (world2 w) w') : w'.heap[w.heap.size]? = some (.cells #[.int .i64 0, .slice none 0 0] 24 (0, 0)) :=
  blk_below (blk_below (blk_new w _) (below_alloc (Below.refl _ _) _)) h
theorem world2_none {w w' : World} (h : Below (world2 w).heap.size (world2 w) w') : w'.heap[w.heap.size + 1]? = some (.cells #[.int .i64 0, .slice none 0 0] 24 (0, 0)) := by
  refine blk_below ?_ h
  have := blk_new (w.alloc (.cells #[.int .i64 0, .slice none 0 0] 24)) (.cells #[.int .i64 0, .slice none 0 0] 24)
  rwa [show (w.alloc (.cells #[.int .i64 0, .slice none 0 0] 24)).heap.size = w.heap.size + 1 by simp] at this
theorem ref_end {w w' : World} (h : Below (world2 w).heap.size (world2 w) w') : Below w.heap.size w ((w'.setCell ⟨w.heap.size, 0, none⟩ (.int .i64 0)).setCell ⟨w.heap.size, 1, none⟩ (.slice none 0 0)) ∧
    ((w'.setCell ⟨w.heap.size, 0, none⟩ (.int .i64 0)).setCell ⟨w.heap.size, 1, none⟩ (.slice none 0 0)).heap[w.heap.size]? = some (.cells #[.int .i64 0, .slice none 0 0] 24 (0, 0)) :=
  ⟨below_set (below_set (below2 h) (Nat.le_refl _)) (Nat.le_refl _), blk_put (blk_put (world2_res h) 0 _ rfl) 1 _ rfl⟩
set_option maxHeartbeats 1000000 in
set_option maxRecDepth 100000 in
theorem ref_one (k : Nat) (A : Option Addr) (c : Nat) (b : List Int) (g1 g2 g3 : Int) (w : World) (hC : Kd.C (Kd.int .u8) w A b.length b) (hc : b.length ≤ c) (hg : colloquyref01_Get.f k b = some (g1, g2, g3)) (he : (g3 != 0) = true) :
    Calls Try.prog 14 #[.slice A b.length c] w (RefTold w 0 [] 0 g3) := by
  have HC := Aside0.mk (Kd.C_below hC (world2_below w))
  have HG := Aside0.mk hg
  have HL := Aside0.mk hc
  clear hC hg hc
  go_enter Try.func14, Try.ntmps14
  go_wp2_with fail
  refine (colloquyref01_Get.calls k A c b g1 g2 g3 _ HC.out HL.out HG.out).mono ?_
  rintro x w1 ⟨rfl, hD⟩
  have HB := Aside0.mk hD.below
  clear hD
  have n0 : w1.cell? ⟨w.heap.size + 1, 0, none⟩ = some (.int .i64 0) := (blk_cell (world2_none HB.out) 0).trans rfl
  have n1 : w1.cell? ⟨w.heap.size + 1, 1, none⟩ = some (.slice none 0 0) := (blk_cell (world2_none HB.out) 1).trans rfl
  have z0 : w1.cell? ⟨w.heap.size, 0, none⟩ = some (.int .i64 0) := (blk_cell (world2_res HB.out) 0).trans rfl
  have z1 : w1.cell? ⟨w.heap.size, 1, none⟩ = some (.slice none 0 0) := (blk_cell (world2_res HB.out) 1).trans rfl
  have f0 := blk_frozen (world2_res HB.out) 0
  have f1 := blk_frozen (world2_res HB.out) 1
  go_wp2
  refine bodyPost_ret (results_ctt rfl _ _ w.heap.size 24 #[.int .i64 0, .slice none 0 0] (0, 0) _ rfl (ref_end HB.out).2 Try.underlying24 rfl (by kernel_rfl)) rfl ?_
  exact ⟨_, rfl, Kd.R_nil _ _ _ _ _, (ref_end HB.out).1⟩
set_option maxHeartbeats 1000000 in
set_option maxRecDepth 100000 in
theorem ref_two (k : Nat) (A : Option Addr) (c : Nat) (b : List Int) (g1 g2 g3 : Int) (w : World) (hC : Kd.C (Kd.int .u8) w A b.length b) (hc : b.length ≤ c) (hg : colloquyref01_Get.f k b = some (g1, g2, g3)) (he : (g3 != 0) = false) (hm : decide (g1 > 1048576) = true) :
    Calls Try.prog 14 #[.slice A b.length c] w (RefTold w 0 [] 0 2) := by
  have HC := Aside0.mk (Kd.C_below hC (world2_below w))
  have HG := Aside0.mk hg
  have HL := Aside0.mk hc
  clear hC hg hc
  go_enter Try.func14, Try.ntmps14
  go_wp2_with fail
  refine (colloquyref01_Get.calls k A c b g1 g2 g3 _ HC.out HL.out HG.out).mono ?_
  rintro x w1 ⟨rfl, hD⟩
  have HB := Aside0.mk hD.below
  clear hD
  have n0 : w1.cell? ⟨w.heap.size + 1, 0, none⟩ = some (.int .i64 0) := (blk_cell (world2_none HB.out) 0).trans rfl
  have n1 : w1.cell? ⟨w.heap.size + 1, 1, none⟩ = some (.slice none 0 0) := (blk_cell (world2_none HB.out) 1).trans rfl
  have z0 : w1.cell? ⟨w.heap.size, 0, none⟩ = some (.int .i64 0) := (blk_cell (world2_res HB.out) 0).trans rfl
  have z1 : w1.cell? ⟨w.heap.size, 1, none⟩ = some (.slice none 0 0) := (blk_cell (world2_res HB.out) 1).trans rfl
  have f0 := blk_frozen (world2_res HB.out) 0
  have f1 := blk_frozen (world2_res HB.out) 1
  go_wp2
  refine bodyPost_ret (results_ctt rfl _ _ w.heap.size 24 #[.int .i64 0, .slice none 0 0] (0, 0) _ rfl (ref_end HB.out).2 Try.underlying24 rfl (by kernel_rfl)) rfl ?_
  exact ⟨_, rfl, Kd.R_nil _ _ _ _ _, (ref_end HB.out).1⟩
set_option maxHeartbeats 1000000 in
set_option maxRecDepth 100000 in
theorem ref_three (k : Nat) (A : Option Addr) (c : Nat) (b : List Int) (g1 g2 g3 : Int) (w : World) (hC : Kd.C (Kd.int .u8) w A b.length b) (hc : b.length ≤ c) (hg : colloquyref01_Get.f k b = some (g1, g2, g3)) (he : (g3 != 0) = false) (hm : decide (g1 > 1048576) = false) (p0 : 0 ≤ g2) (p1 : g2 ≤ (b.length : Int)) (y : List Int) (hy : y = b.drop g2.toNat) (h1 h2 h3 : Int) (hh : colloquyref01_Get.f k y = some (h1, h2, h3)) (he3 : (h3 != 0) = true) :
    Calls Try.prog 14 #[.slice A b.length c] w (RefTold w 0 [] 0 h3) := by
  have HC := Aside0.mk (Kd.C_below hC (world2_below w))
  have HG := Aside0.mk hg
  have HL := Aside0.mk hc
  have HH := Aside0.mk hh
  have hat : g2.toNat ≤ b.length := by omega
  obtain ⟨i0, hi0, _, hsz, _⟩ := info_parts info5
  have hcut := cut_from (P := Try.prog) 22 5 .i64 Try.underlying22 hi0 1 hsz A b.length c g2 p0 p1
  have hr := Kd.C_drop (m := g2.toNat) (c := c) HC.out hat hc
  obtain ⟨A2, hA2⟩ : ∃ A1, A1 = (if c = g2.toNat then A else (A : Option Addr).map (·.add (g2.toNat * 1))) := ⟨_, rfl⟩
  obtain ⟨c2, hc2⟩ : ∃ c1, c1 = c - g2.toNat := ⟨_, rfl⟩
  have hyl : y.length = b.length - g2.toNat := by rw [hy, List.length_drop]
  rw [← hy] at hr
  replace hr : Kd.C (Kd.int .u8) (world2 w) A2 y.length y := by rw [hA2]; exact hr
  rw [← hyl, ← hA2, ← hc2] at hcut
  have HR2 := Aside0.mk hr
  have HC2 := Aside0.mk (show y.length ≤ c2 from by rw [hyl, hc2]; exact Nat.sub_le_sub_right hc _)
  have PP0 := Aside0.mk p0
  have PP1 := Aside0.mk p1
  clear hC hg hc hh hat hi0 hsz hr hy hyl hc2 hA2
  replace p0 := eq_true p0
  replace p1 := eq_true p1
  go_enter Try.func14, Try.ntmps14
  go_wp2_with fail
  refine (colloquyref01_Get.calls k A c b g1 g2 g3 _ HC.out HL.out HG.out).mono ?_
  rintro x w1 ⟨rfl, hD⟩
  have HB := Aside0.mk hD.below
  clear hD
  go_wp2_with fail
  refine (colloquyref01_Get.calls k A2 c2 y h1 h2 h3 _ (Kd.C_below HR2.out HB.out) HC2.out HH.out).mono ?_
  rintro x w2 ⟨rfl, hD⟩
  have HB2 := Aside0.mk (below_then HB.out HB.out.size hD.below)
  clear hD
  have n0 : w2.cell? ⟨w.heap.size + 1, 0, none⟩ = some (.int .i64 0) := (blk_cell (world2_none HB2.out) 0).trans rfl
  have n1 : w2.cell? ⟨w.heap.size + 1, 1, none⟩ = some (.slice none 0 0) := (blk_cell (world2_none HB2.out) 1).trans rfl
  have z0 : w2.cell? ⟨w.heap.size, 0, none⟩ = some (.int .i64 0) := (blk_cell (world2_res HB2.out) 0).trans rfl
  have z1 : w2.cell? ⟨w.heap.size, 1, none⟩ = some (.slice none 0 0) := (blk_cell (world2_res HB2.out) 1).trans rfl
  have f0 := blk_frozen (world2_res HB2.out) 0
  have f1 := blk_frozen (world2_res HB2.out) 1
  go_wp2
  refine bodyPost_ret (results_ctt rfl _ _ w.heap.size 24 #[.int .i64 0, .slice none 0 0] (0, 0) _ rfl (ref_end HB2.out).2 Try.underlying24 rfl (by kernel_rfl)) rfl ?_
  exact ⟨_, rfl, Kd.R_nil _ _ _ _ _, (ref_end HB2.out).1⟩
set_option maxHeartbeats 1000000 in
set_option maxRecDepth 100000 in
theorem ref_four (k : Nat) (A : Option Addr) (c : Nat) (b : List Int) (g1 g2 g3 : Int) (w : World) (hC : Kd.C (Kd.int .u8) w A b.length b) (hc : b.length ≤ c) (hg : colloquyref01_Get.f k b = some (g1, g2, g3)) (he : (g3 != 0) = false) (hm : decide (g1 > 1048576) = false) (p0 : 0 ≤ g2) (p1 : g2 ≤ (b.length : Int)) (y : List Int) (hy : y = b.drop g2.toNat) (h1 h2 h3 : Int) (hh : colloquyref01_Get.f k y = some (h1, h2, h3)) (he3 : (h3 != 0) = false) (hm3 : decide (h1 > 1024) = true) :
    Calls Try.prog 14 #[.slice A b.length c] w (RefTold w 0 [] 0 7) := by
  have HC := Aside0.mk (Kd.C_below hC (world2_below w))
  have HG := Aside0.mk hg
  have HL := Aside0.mk hc
  have HH := Aside0.mk hh
  have hat : g2.toNat ≤ b.length := by omega
  obtain ⟨i0, hi0, _, hsz, _⟩ := info_parts info5
  have hcut := cut_from (P := Try.prog) 22 5 .i64 Try.underlying22 hi0 1 hsz A b.length c g2 p0 p1
  have hr := Kd.C_drop (m := g2.toNat) (c := c) HC.out hat hc
  obtain ⟨A2, hA2⟩ : ∃ A1, A1 = (if c = g2.toNat then A else (A : Option Addr).map (·.add (g2.toNat * 1))) := ⟨_, rfl⟩
  obtain ⟨c2, hc2⟩ : ∃ c1, c1 = c - g2.toNat := ⟨_, rfl⟩
  have hyl : y.length = b.length - g2.toNat := by rw [hy, List.length_drop]
  rw [← hy] at hr
  replace hr : Kd.C (Kd.int .u8) (world2 w) A2 y.length y := by rw [hA2]; exact hr
  rw [← hyl, ← hA2, ← hc2] at hcut
  have HR2 := Aside0.mk hr
  have HC2 := Aside0.mk (show y.length ≤ c2 from by rw [hyl, hc2]; exact Nat.sub_le_sub_right hc _)
  have PP0 := Aside0.mk p0
  have PP1 := Aside0.mk p1
  clear hC hg hc hh hat hi0 hsz hr hy hyl hc2 hA2
  replace p0 := eq_true p0
  replace p1 := eq_true p1
  go_enter Try.func14, Try.ntmps14
  go_wp2_with fail
  refine (colloquyref01_Get.calls k A c b g1 g2 g3 _ HC.out HL.out HG.out).mono ?_
  rintro x w1 ⟨rfl, hD⟩
  have HB := Aside0.mk hD.below
  clear hD
  go_wp2_with fail
  refine (colloquyref01_Get.calls k A2 c2 y h1 h2 h3 _ (Kd.C_below HR2.out HB.out) HC2.out HH.out).mono ?_
  rintro x w2 ⟨rfl, hD⟩
  have HB2 := Aside0.mk (below_then HB.out HB.out.size hD.below)
  clear hD
  have n0 : w2.cell? ⟨w.heap.size + 1, 0, none⟩ = some (.int .i64 0) := (blk_cell (world2_none HB2.out) 0).trans rfl
  have n1 : w2.cell? ⟨w.heap.size + 1, 1, none⟩ = some (.slice none 0 0) := (blk_cell (world2_none HB2.out) 1).trans rfl
  have z0 : w2.cell? ⟨w.heap.size, 0, none⟩ = some (.int .i64 0) := (blk_cell (world2_res HB2.out) 0).trans rfl
  have z1 : w2.cell? ⟨w.heap.size, 1, none⟩ = some (.slice none 0 0) := (blk_cell (world2_res HB2.out) 1).trans rfl
  have f0 := blk_frozen (world2_res HB2.out) 0
  have f1 := blk_frozen (world2_res HB2.out) 1
  go_wp2
  refine bodyPost_ret (results_ctt rfl _ _ w.heap.size 24 #[.int .i64 0, .slice none 0 0] (0, 0) _ rfl (ref_end HB2.out).2 Try.underlying24 rfl (by kernel_rfl)) rfl ?_
  exact ⟨_, rfl, Kd.R_nil _ _ _ _ _, (ref_end HB2.out).1⟩
set_option maxHeartbeats 1000000 in
set_option maxRecDepth 100000 in
theorem ref_five (k : Nat) (A : Option Addr) (c : Nat) (b : List Int) (g1 g2 g3 : Int) (w : World) (hC : Kd.C (Kd.int .u8) w A b.length b) (hc : b.length ≤ c) (hg : colloquyref01_Get.f k b = some (g1, g2, g3)) (he : (g3 != 0) = false) (hm : decide (g1 > 1048576) = false) (p0 : 0 ≤ g2) (p1 : g2 ≤ (b.length : Int)) (y : List Int) (hy : y = b.drop g2.toNat) (h1 h2 h3 : Int) (hh : colloquyref01_Get.f k y = some (h1, h2, h3)) (he3 : (h3 != 0) = false) (hm3 : decide (h1 > 1024) = false) (at_ : Int) (hat_ : wrap64 (g2 + h2) = at_) (s4 e4 : Int) (hs4 : wrap64 (at_ + 4) = s4) (hs5 : wrap64 (s4 + h1) = e4) (hlt : decide ((b.length : Int) < e4) = true) :
    Calls Try.prog 14 #[.slice A b.length c] w (RefTold w 0 [] 0 3) := by
  have HC := Aside0.mk (Kd.C_below hC (world2_below w))
  have HG := Aside0.mk hg
  have HL := Aside0.mk hc
  have HH := Aside0.mk hh
  have hat : g2.toNat ≤ b.length := by omega
  obtain ⟨i0, hi0, _, hsz, _⟩ := info_parts info5
  have hcut := cut_from (P := Try.prog) 22 5 .i64 Try.underlying22 hi0 1 hsz A b.length c g2 p0 p1
  have hr := Kd.C_drop (m := g2.toNat) (c := c) HC.out hat hc
  obtain ⟨A2, hA2⟩ : ∃ A1, A1 = (if c = g2.toNat then A else (A : Option Addr).map (·.add (g2.toNat * 1))) := ⟨_, rfl⟩
  obtain ⟨c2, hc2⟩ : ∃ c1, c1 = c - g2.toNat := ⟨_, rfl⟩
  have hyl : y.length = b.length - g2.toNat := by rw [hy, List.length_drop]
  rw [← hy] at hr
  replace hr : Kd.C (Kd.int .u8) (world2 w) A2 y.length y := by rw [hA2]; exact hr
  rw [← hyl, ← hA2, ← hc2] at hcut
  have HR2 := Aside0.mk hr
  have HC2 := Aside0.mk (show y.length ≤ c2 from by rw [hyl, hc2]; exact Nat.sub_le_sub_right hc _)
  have PP0 := Aside0.mk p0
  have PP1 := Aside0.mk p1
  clear hC hg hc hh hat hi0 hsz hr hy hyl hc2 hA2
  replace p0 := eq_true p0
  replace p1 := eq_true p1
  go_enter Try.func14, Try.ntmps14
  go_wp2_with fail
  refine (colloquyref01_Get.calls k A c b g1 g2 g3 _ HC.out HL.out HG.out).mono ?_
  rintro x w1 ⟨rfl, hD⟩
  have HB := Aside0.mk hD.below
  clear hD
  go_wp2_with fail
  refine (colloquyref01_Get.calls k A2 c2 y h1 h2 h3 _ (Kd.C_below HR2.out HB.out) HC2.out HH.out).mono ?_
  rintro x w2 ⟨rfl, hD⟩
  have HB2 := Aside0.mk (below_then HB.out HB.out.size hD.below)
  clear hD
  have n0 : w2.cell? ⟨w.heap.size + 1, 0, none⟩ = some (.int .i64 0) := (blk_cell (world2_none HB2.out) 0).trans rfl
  have n1 : w2.cell? ⟨w.heap.size + 1, 1, none⟩ = some (.slice none 0 0) := (blk_cell (world2_none HB2.out) 1).trans rfl
  have z0 : w2.cell? ⟨w.heap.size, 0, none⟩ = some (.int .i64 0) := (blk_cell (world2_res HB2.out) 0).trans rfl
  have z1 : w2.cell? ⟨w.heap.size, 1, none⟩ = some (.slice none 0 0) := (blk_cell (world2_res HB2.out) 1).trans rfl
  have f0 := blk_frozen (world2_res HB2.out) 0
  have f1 := blk_frozen (world2_res HB2.out) 1
  go_wp2
  refine bodyPost_ret (results_ctt rfl _ _ w.heap.size 24 #[.int .i64 0, .slice none 0 0] (0, 0) _ rfl (ref_end HB2.out).2 Try.underlying24 rfl (by kernel_rfl)) rfl ?_
  exact ⟨_, rfl, Kd.R_nil _ _ _ _ _, (ref_end HB2.out).1⟩
theorem Below.of_grown_none {w w1 : World} (h : w.grownBy w1 none) : Below w.heap.size w w1 := ⟨h.os, h.tape, h.output, h.size, fun i hi => h.block i hi (by simp)⟩
set_option maxHeartbeats 4000000 in
set_option maxRecDepth 100000 in
theorem ref_six (k : Nat) (A : Option Addr) (c : Nat) (b : List Int) (g1 g2 g3 : Int) (w : World) (hC : Kd.C (Kd.int .u8) w A b.length b) (hc : b.length ≤ c) (hg : colloquyref01_Get.f k b = some (g1, g2, g3)) (he : (g3 != 0) = false) (hm : decide (g1 > 1048576) = false) (p0 : 0 ≤ g2) (p1 : g2 ≤ (b.length : Int)) (y : List Int) (hy : y = b.drop g2.toNat) (h1 h2 h3 : Int) (hh : colloquyref01_Get.f k y = some (h1, h2, h3)) (he3 : (h3 != 0) = false) (hm3 : decide (h1 > 1024) = false) (at_ : Int) (hat_ : wrap64 (g2 + h2) = at_) (s4 e4 : Int) (hs4 : wrap64 (at_ + 4) = s4) (hs5 : wrap64 (s4 + h1) = e4) (hlt : decide ((b.length : Int) < e4) = false) (o0 : 0 ≤ at_) (o3 : at_ + 3 < (b.length : Int)) (o4 : 0 ≤ s4) (o5 : s4 ≤ e4) (o6 : e4 ≤ (b.length : Int)) (z : List Int) (hz : z = (b.take e4.toNat).drop s4.toNat) (hzl : z.length < 140737488355328) (K : Nat) (tv : Int) (hsum : colloquyref02_Sum.f K z = some tv) (bv : Int) (hbv : (rd b at_ % 4294967296 * 16777216 + rd b (at_ + 1) % 4294967296 * 65536 + rd b (at_ + 2) % 4294967296 * 256 + rd b (at_ + 3)) % 4294967296 = bv) (hne : (tv != bv) = true) :
    Calls Try.prog 14 #[.slice A b.length c] w (RefTold w 0 [] 0 4) := by
  have HC := Aside0.mk (Kd.C_below hC (world2_below w))
  have HG := Aside0.mk hg
  have HL := Aside0.mk hc
  have HSUM := Aside0.mk hsum
  have HZL := Aside0.mk hzl
  have HBV := Aside0.mk hbv
  have t0 := Kd.at_int HC.out at_ o0 (by omega)
  have t1 := Kd.at_int HC.out (at_ + 1) (by omega) (by omega)
  have t2 := Kd.at_int HC.out (at_ + 2) (by omega) (by omega)
  have t3 := Kd.at_int HC.out (at_ + 3) (by omega) (by omega)
  have r1 : IntKind.i64.wrap (at_ + 1) = at_ + 1 := by have := HC.out.2.1; rw [IntKind.wrap_i64]; omega
  have r2 : IntKind.i64.wrap (at_ + 2) = at_ + 2 := by have := HC.out.2.1; rw [IntKind.wrap_i64]; omega
  have r3 : IntKind.i64.wrap (at_ + 3) = at_ + 3 := by have := HC.out.2.1; rw [IntKind.wrap_i64]; omega
  obtain ⟨j0, hj0, _, hjsz, _⟩ := info_parts info5
  have hmid := cut_mid (P := Try.prog) 22 5 .i64 .i64 Try.underlying22 hj0 1 hjsz A b.length c s4 e4 o4 o5 o6 hc
  have hrz := Kd.C_mid (lo := s4.toNat) (hi := e4.toNat) (c := c) HC.out (by omega) (by omega) hc
  rw [← hz] at hrz
  have hzl2 : z.length = e4.toNat - s4.toNat := by rw [hz, List.length_drop, List.length_take]; omega
  obtain ⟨A3, hA3⟩ : ∃ A1, A1 = (if c = s4.toNat then A else (A : Option Addr).map (·.add (s4.toNat * 1))) := ⟨_, rfl⟩
  obtain ⟨c3, hc3⟩ : ∃ c1, c1 = c - s4.toNat := ⟨_, rfl⟩
  replace hrz : Kd.C (Kd.int .u8) (world2 w) A3 z.length z := by rw [hA3]; exact hrz
  rw [← hzl2, ← hA3, ← hc3] at hmid
  have HZ := Aside0.mk hrz
  have HMID := Aside0.mk hmid
  clear hmid hrz hzl2 hA3 hc3 hj0 hjsz hz hzl hsum hbv
  have HH := Aside0.mk hh
  have hat : g2.toNat ≤ b.length := by omega
  obtain ⟨i0, hi0, _, hsz, _⟩ := info_parts info5
  have hcut := cut_from (P := Try.prog) 22 5 .i64 Try.underlying22 hi0 1 hsz A b.length c g2 p0 p1
  have hr := Kd.C_drop (m := g2.toNat) (c := c) HC.out hat hc
  obtain ⟨A2, hA2⟩ : ∃ A1, A1 = (if c = g2.toNat then A else (A : Option Addr).map (·.add (g2.toNat * 1))) := ⟨_, rfl⟩
  obtain ⟨c2, hc2⟩ : ∃ c1, c1 = c - g2.toNat := ⟨_, rfl⟩
  have hyl : y.length = b.length - g2.toNat := by rw [hy, List.length_drop]
  rw [← hy] at hr
  replace hr : Kd.C (Kd.int .u8) (world2 w) A2 y.length y := by rw [hA2]; exact hr
  rw [← hyl, ← hA2, ← hc2] at hcut
  have HR2 := Aside0.mk hr
  have HC2 := Aside0.mk (show y.length ≤ c2 from by rw [hyl, hc2]; exact Nat.sub_le_sub_right hc _)
  have PP0 := Aside0.mk p0
  have PP1 := Aside0.mk p1
  clear hC hg hc hh hat hi0 hsz hr hy hyl hc2 hA2
  replace p0 := eq_true p0
  replace p1 := eq_true p1
  go_enter Try.func14, Try.ntmps14
  go_wp2_with fail
  refine (colloquyref01_Get.calls k A c b g1 g2 g3 _ HC.out HL.out HG.out).mono ?_
  rintro x w1 ⟨rfl, hD⟩
  have HB := Aside0.mk hD.below
  clear hD
  go_wp2_with fail
  refine (colloquyref01_Get.calls k A2 c2 y h1 h2 h3 _ (Kd.C_below HR2.out HB.out) HC2.out HH.out).mono ?_
  rintro x w2 ⟨rfl, hD⟩
  have HB2 := Aside0.mk (below_then HB.out HB.out.size hD.below)
  clear hD
  have n0 : w2.cell? ⟨w.heap.size + 1, 0, none⟩ = some (.int .i64 0) := (blk_cell (world2_none HB2.out) 0).trans rfl
  have n1 : w2.cell? ⟨w.heap.size + 1, 1, none⟩ = some (.slice none 0 0) := (blk_cell (world2_none HB2.out) 1).trans rfl
  have z0 : w2.cell? ⟨w.heap.size, 0, none⟩ = some (.int .i64 0) := (blk_cell (world2_res HB2.out) 0).trans rfl
  have z1 : w2.cell? ⟨w.heap.size, 1, none⟩ = some (.slice none 0 0) := (blk_cell (world2_res HB2.out) 1).trans rfl
  have f0 := blk_frozen (world2_res HB2.out) 0
  have f1 := blk_frozen (world2_res HB2.out) 1
  go_wp2_with fail
  obtain ⟨ad, ea, x0⟩ := t0
  subst ea
  obtain ⟨_, ea, x1⟩ := t1
  cases ea
  obtain ⟨_, ea, x2⟩ := t2
  cases ea
  obtain ⟨_, ea, x3⟩ := t3
  cases ea
  have y0 := pw_cell_below HB2.out x0
  have y1 := pw_cell_below HB2.out x1
  have y2 := pw_cell_below HB2.out x2
  have y3 := pw_cell_below HB2.out x3
  have m0 := eq_true o0
  have m1 := eq_true (show at_ < (b.length : Int) by omega)
  have m2 := eq_true (show 0 ≤ at_ + 1 by omega)
  have m3 := eq_true (show at_ + 1 < (b.length : Int) by omega)
  have m4 := eq_true (show 0 ≤ at_ + 2 by omega)
  have m5 := eq_true (show at_ + 2 < (b.length : Int) by omega)
  have m6 := eq_true (show 0 ≤ at_ + 3 by omega)
  have m7 := eq_true o3
  go_quiet (fail)
  have hmid := HMID.out
  clear HMID y0 y1 y2 y3 m0 m1 m2 m3 m4 m5 m6 m7 x0 x1 x2 x3 n0 n1 z0 z1 f0 f1
  go_wp2_with ((with_reducible refine gate_builtin (b := .append) (xs := #[.const (.slice none 0 0), .tmp 91]) rfl ?_); at_builtin; refine Kd.R_append_rows (Kd.int .u8) (w0 := w) w.heap.size rfl (.const (.slice none 0 0)) (.tmp 91) 22 5 (.int .u8 0) 1 rfl Try.underlying22 info5 rfl (by decide) (by omega) (.slice none 0 0) [] z A3 z.length c3 (fun _ => True) (fun _ => False) rfl rfl (Kd.R_nil _ _ _ _ _) (Kd.C_drewN (Kd.C_below HZ.out HB2.out) _) (fun _ _ h => h) (fun _ h => h.elim) (fun _ _ => trivial) (pw_below_drewN (below2 HB2.out) _) ?aS ?aL ?_; (case aS => exact (pw_below_drewN (below2 HB2.out) _).size); (case aL => have := HZL.out; simp; omega); intro v1 w3 ho hb1 hg hat; have HO := Aside0.mk ho; have HB3 := Aside0.mk (below_then (w1 := w2.drewN _) (pw_below_drewN HB2.out _) (pw_below_drewN HB2.out _).size (Below.of_grown_none hg)); clear ho hb1 hg hat)
  rw [List.nil_append] at HO
  obtain ⟨A6, c6, hv1⟩ := Kd.R_slice HO.out
  subst hv1
  rw [HBV.out]
  refine (colloquyref02_Sum.calls K A6 c6 z tv w3 (Kd.R_reads' HO.out).2.2 (Kd.R_reads' HO.out).2.1 HSUM.out).mono ?_
  rintro x w4 ⟨rfl, hD⟩
  have HB4 := Aside0.mk (below_then HB3.out HB3.out.size hD.below)
  have HO4 := Aside0.mk (Kd.R_below HO.out hD.below)
  clear hD HO
  have n0 : w4.cell? ⟨w.heap.size + 1, 0, none⟩ = some (.int .i64 0) := (blk_cell (world2_none HB4.out) 0).trans rfl
  have n1 : w4.cell? ⟨w.heap.size + 1, 1, none⟩ = some (.slice none 0 0) := (blk_cell (world2_none HB4.out) 1).trans rfl
  have z0 : w4.cell? ⟨w.heap.size, 0, none⟩ = some (.int .i64 0) := (blk_cell (world2_res HB4.out) 0).trans rfl
  have z1 : w4.cell? ⟨w.heap.size, 1, none⟩ = some (.slice none 0 0) := (blk_cell (world2_res HB4.out) 1).trans rfl
  have f0 := blk_frozen (world2_res HB4.out) 0
  have f1 := blk_frozen (world2_res HB4.out) 1
  go_wp2
  refine bodyPost_ret (results_ctt rfl _ _ w.heap.size 24 #[.int .i64 0, .slice none 0 0] (0, 0) _ rfl (ref_end HB4.out).2 Try.underlying24 rfl (by kernel_rfl)) rfl ?_
  exact ⟨_, rfl, Kd.R_nil _ _ _ _ _, (ref_end HB4.out).1⟩
set_option maxHeartbeats 4000000 in
set_option maxRecDepth 100000 in
theorem ref_seven (k : Nat) (A : Option Addr) (c : Nat) (b : List Int) (g1 g2 g3 : Int) (w : World) (hC : Kd.C (Kd.int .u8) w A b.length b) (hc : b.length ≤ c) (hg : colloquyref01_Get.f k b = some (g1, g2, g3)) (he : (g3 != 0) = false) (hm : decide (g1 > 1048576) = false) (p0 : 0 ≤ g2) (p1 : g2 ≤ (b.length : Int)) (y : List Int) (hy : y = b.drop g2.toNat) (h1 h2 h3 : Int) (hh : colloquyref01_Get.f k y = some (h1, h2, h3)) (he3 : (h3 != 0) = false) (hm3 : decide (h1 > 1024) = false) (at_ : Int) (hat_ : wrap64 (g2 + h2) = at_) (s4 e4 : Int) (hs4 : wrap64 (at_ + 4) = s4) (hs5 : wrap64 (s4 + h1) = e4) (hlt : decide ((b.length : Int) < e4) = false) (o0 : 0 ≤ at_) (o3 : at_ + 3 < (b.length : Int)) (o4 : 0 ≤ s4) (o5 : s4 ≤ e4) (o6 : e4 ≤ (b.length : Int)) (z : List Int) (hz : z = (b.take e4.toNat).drop s4.toNat) (hzl : z.length < 140737488355328) (K : Nat) (tv : Int) (hsum : colloquyref02_Sum.f K z = some tv) (bv : Int) (hbv : (rd b at_ % 4294967296 * 16777216 + rd b (at_ + 1) % 4294967296 * 65536 + rd b (at_ + 2) % 4294967296 * 256 + rd b (at_ + 3)) % 4294967296 = bv) (hne : (tv != bv) = false) :
    Calls Try.prog 14 #[.slice A b.length c] w (RefTold w g1 z e4 0) := by
  have HC := Aside0.mk (Kd.C_below hC (world2_below w))
  have HG := Aside0.mk hg
  have HL := Aside0.mk hc
  have HSUM := Aside0.mk hsum
  have HZL := Aside0.mk hzl
  have HBV := Aside0.mk hbv
  have t0 := Kd.at_int HC.out at_ o0 (by omega)
  have t1 := Kd.at_int HC.out (at_ + 1) (by omega) (by omega)
  have t2 := Kd.at_int HC.out (at_ + 2) (by omega) (by omega)
  have t3 := Kd.at_int HC.out (at_ + 3) (by omega) (by omega)
  have r1 : IntKind.i64.wrap (at_ + 1) = at_ + 1 := by have := HC.out.2.1; rw [IntKind.wrap_i64]; omega
  have r2 : IntKind.i64.wrap (at_ + 2) = at_ + 2 := by have := HC.out.2.1; rw [IntKind.wrap_i64]; omega
  have r3 : IntKind.i64.wrap (at_ + 3) = at_ + 3 := by have := HC.out.2.1; rw [IntKind.wrap_i64]; omega
  obtain ⟨j0, hj0, _, hjsz, _⟩ := info_parts info5
  have hmid := cut_mid (P := Try.prog) 22 5 .i64 .i64 Try.underlying22 hj0 1 hjsz A b.length c s4 e4 o4 o5 o6 hc
  have hrz := Kd.C_mid (lo := s4.toNat) (hi := e4.toNat) (c := c) HC.out (by omega) (by omega) hc
  rw [← hz] at hrz
  have hzl2 : z.length = e4.toNat - s4.toNat := by rw [hz, List.length_drop, List.length_take]; omega
  obtain ⟨A3, hA3⟩ : ∃ A1, A1 = (if c = s4.toNat then A else (A : Option Addr).map (·.add (s4.toNat * 1))) := ⟨_, rfl⟩
  obtain ⟨c3, hc3⟩ : ∃ c1, c1 = c - s4.toNat := ⟨_, rfl⟩
  replace hrz : Kd.C (Kd.int .u8) (world2 w) A3 z.length z := by rw [hA3]; exact hrz
  rw [← hzl2, ← hA3, ← hc3] at hmid
  have HZ := Aside0.mk hrz
  have HMID := Aside0.mk hmid
  clear hmid hrz hzl2 hA3 hc3 hj0 hjsz hz hzl hsum hbv
  have HH := Aside0.mk hh
  have hat : g2.toNat ≤ b.length := by omega
  obtain ⟨i0, hi0, _, hsz, _⟩ := info_parts info5
  have hcut := cut_from (P := Try.prog) 22 5 .i64 Try.underlying22 hi0 1 hsz A b.length c g2 p0 p1
  have hr := Kd.C_drop (m := g2.toNat) (c := c) HC.out hat hc
  obtain ⟨A2, hA2⟩ : ∃ A1, A1 = (if c = g2.toNat then A else (A : Option Addr).map (·.add (g2.toNat * 1))) := ⟨_, rfl⟩
  obtain ⟨c2, hc2⟩ : ∃ c1, c1 = c - g2.toNat := ⟨_, rfl⟩
  have hyl : y.length = b.length - g2.toNat := by rw [hy, List.length_drop]
  rw [← hy] at hr
  replace hr : Kd.C (Kd.int .u8) (world2 w) A2 y.length y := by rw [hA2]; exact hr
  rw [← hyl, ← hA2, ← hc2] at hcut
  have HR2 := Aside0.mk hr
  have HC2 := Aside0.mk (show y.length ≤ c2 from by rw [hyl, hc2]; exact Nat.sub_le_sub_right hc _)
  have PP0 := Aside0.mk p0
  have PP1 := Aside0.mk p1
  clear hC hg hc hh hat hi0 hsz hr hy hyl hc2 hA2
  replace p0 := eq_true p0
  replace p1 := eq_true p1
  go_enter Try.func14, Try.ntmps14
  go_wp2_with fail
  refine (colloquyref01_Get.calls k A c b g1 g2 g3 _ HC.out HL.out HG.out).mono ?_
  rintro x w1 ⟨rfl, hD⟩
  have HB := Aside0.mk hD.below
  clear hD
  go_wp2_with fail
  refine (colloquyref01_Get.calls k A2 c2 y h1 h2 h3 _ (Kd.C_below HR2.out HB.out) HC2.out HH.out).mono ?_
  rintro x w2 ⟨rfl, hD⟩
  have HB2 := Aside0.mk (below_then HB.out HB.out.size hD.below)
  clear hD
  have n0 : w2.cell? ⟨w.heap.size + 1, 0, none⟩ = some (.int .i64 0) := (blk_cell (world2_none HB2.out) 0).trans rfl
  have n1 : w2.cell? ⟨w.heap.size + 1, 1, none⟩ = some (.slice none 0 0) := (blk_cell (world2_none HB2.out) 1).trans rfl
  have z0 : w2.cell? ⟨w.heap.size, 0, none⟩ = some (.int .i64 0) := (blk_cell (world2_res HB2.out) 0).trans rfl
  have z1 : w2.cell? ⟨w.heap.size, 1, none⟩ = some (.slice none 0 0) := (blk_cell (world2_res HB2.out) 1).trans rfl
  have f0 := blk_frozen (world2_res HB2.out) 0
  have f1 := blk_frozen (world2_res HB2.out) 1
  go_wp2_with fail
  obtain ⟨ad, ea, x0⟩ := t0
  subst ea
  obtain ⟨_, ea, x1⟩ := t1
  cases ea
  obtain ⟨_, ea, x2⟩ := t2
  cases ea
  obtain ⟨_, ea, x3⟩ := t3
  cases ea
  have y0 := pw_cell_below HB2.out x0
  have y1 := pw_cell_below HB2.out x1
  have y2 := pw_cell_below HB2.out x2
  have y3 := pw_cell_below HB2.out x3
  have m0 := eq_true o0
  have m1 := eq_true (show at_ < (b.length : Int) by omega)
  have m2 := eq_true (show 0 ≤ at_ + 1 by omega)
  have m3 := eq_true (show at_ + 1 < (b.length : Int) by omega)
  have m4 := eq_true (show 0 ≤ at_ + 2 by omega)
  have m5 := eq_true (show at_ + 2 < (b.length : Int) by omega)
  have m6 := eq_true (show 0 ≤ at_ + 3 by omega)
  have m7 := eq_true o3
  go_quiet (fail)
  have hmid := HMID.out
  clear HMID y0 y1 y2 y3 m0 m1 m2 m3 m4 m5 m6 m7 x0 x1 x2 x3 n0 n1 z0 z1 f0 f1
  go_wp2_with ((with_reducible refine gate_builtin (b := .append) (xs := #[.const (.slice none 0 0), .tmp 91]) rfl ?_); at_builtin; refine Kd.R_append_rows (Kd.int .u8) (w0 := w) w.heap.size rfl (.const (.slice none 0 0)) (.tmp 91) 22 5 (.int .u8 0) 1 rfl Try.underlying22 info5 rfl (by decide) (by omega) (.slice none 0 0) [] z A3 z.length c3 (fun _ => True) (fun _ => False) rfl rfl (Kd.R_nil _ _ _ _ _) (Kd.C_drewN (Kd.C_below HZ.out HB2.out) _) (fun _ _ h => h) (fun _ h => h.elim) (fun _ _ => trivial) (pw_below_drewN (below2 HB2.out) _) ?aS ?aL ?_; (case aS => exact (pw_below_drewN (below2 HB2.out) _).size); (case aL => have := HZL.out; simp; omega); intro v1 w3 ho hb1 hg hat; have HO := Aside0.mk ho; have HB3 := Aside0.mk (below_then (w1 := w2.drewN _) (pw_below_drewN HB2.out _) (pw_below_drewN HB2.out _).size (Below.of_grown_none hg)); clear ho hb1 hg hat)
  rw [List.nil_append] at HO
  obtain ⟨A6, c6, hv1⟩ := Kd.R_slice HO.out
  subst hv1
  rw [HBV.out]
  refine (colloquyref02_Sum.calls K A6 c6 z tv w3 (Kd.R_reads' HO.out).2.2 (Kd.R_reads' HO.out).2.1 HSUM.out).mono ?_
  rintro x w4 ⟨rfl, hD⟩
  have HB4 := Aside0.mk (below_then HB3.out HB3.out.size hD.below)
  have HO4 := Aside0.mk (Kd.R_below HO.out hD.below)
  clear hD HO
  have n0 : w4.cell? ⟨w.heap.size + 1, 0, none⟩ = some (.int .i64 0) := (blk_cell (world2_none HB4.out) 0).trans rfl
  have n1 : w4.cell? ⟨w.heap.size + 1, 1, none⟩ = some (.slice none 0 0) := (blk_cell (world2_none HB4.out) 1).trans rfl
  have z0 : w4.cell? ⟨w.heap.size, 0, none⟩ = some (.int .i64 0) := (blk_cell (world2_res HB4.out) 0).trans rfl
  have z1 : w4.cell? ⟨w.heap.size, 1, none⟩ = some (.slice none 0 0) := (blk_cell (world2_res HB4.out) 1).trans rfl
  have f0 := blk_frozen (world2_res HB4.out) 0
  have f1 := blk_frozen (world2_res HB4.out) 1
  go_wp2
  refine bodyPost_ret (results_ctt rfl _ _ w.heap.size 24 #[.int .i64 g1, .slice A6 z.length c6] (0, 0) _ rfl (blk_put (blk_put (world2_res HB4.out) 0 _ rfl) 1 _ rfl) Try.underlying24 rfl (by kernel_rfl)) rfl ?_
  refine ⟨.slice A6 z.length c6, by rw [← hs5]; rfl, ?_, below_set (below_set (below2 HB4.out) (Nat.le_refl _)) (Nat.le_refl _)⟩
  exact Kd.R_mono (Kd.R_far (p := ⟨w.heap.size, 1, none⟩) (Kd.R_far (p := ⟨w.heap.size, 0, none⟩) (Kd.R_types HO4.out (world2_res HB4.out) (by decide)) (fun _ hk => hk.2) (.int .i64 g1)) (fun _ hk => hk.2) (.slice A6 z.length c6)) (fun _ _ => trivial)
def refBE (b : List Int) (a : Int) : Int := (rd b a % 4294967296 * 16777216 + rd b (a + 1) % 4294967296 * 65536 + rd b (a + 2) % 4294967296 * 256 + rd b (a + 3)) % 4294967296
def colloquyref03_Get.f (k : Nat) (b : List Int) : Option (Int × List Int × Int × Int) :=
  (colloquyref01_Get.f k b).bind fun g => if g.2.2 = 0 then (if g.1 > 1048576 then some (0, [], 0, 2) else
    (if 0 ≤ g.2.1 ∧ g.2.1 ≤ (b.length : Int) then ((colloquyref01_Get.f k (b.drop g.2.1.toNat)).bind fun h => if h.2.2 = 0 then (if h.1 > 1024 then some (0, [], 0, 7) else
      (if 0 ≤ h.1 ∧ 0 ≤ h.2.1 ∧ g.2.1 + h.2.1 ≤ (b.length : Int) ∧ (b.length : Int) < 140737488355328 then
        (if (b.length : Int) < g.2.1 + h.2.1 + 4 + h.1 then some (0, [], 0, 3) else
          ((colloquyref02_Sum.f k ((b.take ((g.2.1 + h.2.1).toNat + 4 + h.1.toNat)).drop ((g.2.1 + h.2.1).toNat + 4))).bind fun t =>
            if t = refBE b (g.2.1 + h.2.1) then some (g.1, (b.take ((g.2.1 + h.2.1).toNat + 4 + h.1.toNat)).drop ((g.2.1 + h.2.1).toNat + 4), g.2.1 + h.2.1 + 4 + h.1, 0) else some (0, [], 0, 4)))
      else none)) else some (0, [], 0, h.2.2))
    else none)) else some (0, [], 0, g.2.2)
theorem colloquyref03_Get.mono : ∀ a0 k, LeO (colloquyref03_Get.f k a0) (colloquyref03_Get.f (k + 1) a0) := by
  intro a0 k
  unfold colloquyref03_Get.f
  refine LeO.bind (colloquyref01_Get.mono _ _) (fun _ => LeO.ite (LeO.ite (LeO.refl _) (LeO.ite (LeO.bind (colloquyref01_Get.mono _ _) (fun _ => LeO.ite (LeO.ite (LeO.refl _) (LeO.ite (LeO.ite (LeO.refl _) (LeO.bind (colloquyref02_Sum.mono _ _) (fun _ => LeO.refl _))) (LeO.refl _))) (LeO.refl _))) (LeO.refl _))) (LeO.refl _))
theorem ref_wrap64 {a : Int} (h0 : -9223372036854775808 ≤ a) (h1 : a ≤ 9223372036854775807) : wrap64 a = a := by unfold wrap64; omega
theorem colloquyref03_Get.calls (k : Nat) (A0 : Option Addr) (c0 : Nat) (l0 : List Int) (r1 : Int) (r2 : List Int) (r3 r4 : Int) (w : World) (hr0 : Kd.C (Kd.int .u8) w A0 l0.length l0) (hc0 : l0.length ≤ c0) (h : colloquyref03_Get.f k l0 = some (r1, r2, r3, r4)) :
    Calls Try.prog 14 #[.slice A0 l0.length c0] w fun e w' => ∃ v1_ : Value, e = .returned (.tuple #[.agg #[.int .i64 r1, v1_], .int .i64 r3, .int .i64 r4]) ∧ Kd.R (Kd.int .u8) 5 w' w.heap.size (fun _ => True) v1_ r2 ∧ Below w.heap.size w w' := by
  show Calls Try.prog 14 #[.slice A0 l0.length c0] w (RefTold w r1 r2 r3 r4)
  have hlen : (l0.length : Int) ≤ 9223372036854775807 := by have := hr0.2.1; omega
  obtain ⟨⟨g1, g2, g3⟩, hg, h⟩ := Option.bind_eq_some_iff.mp h
  simp only at h
  by_cases c1 : g3 = 0
  · rw [if_pos c1] at h
    have d1 : (g3 != 0) = false := by rw [bne_eq_false_iff_eq]; exact c1
    by_cases c2 : g1 > 1048576
    · rw [if_pos c2] at h
      simp only [Option.some.injEq, Prod.mk.injEq] at h
      obtain ⟨rfl, rfl, rfl, rfl⟩ := h
      exact ref_two k A0 c0 l0 g1 g2 g3 w hr0 hc0 hg d1 (decide_eq_true c2)
    rw [if_neg c2] at h
    have d2 := decide_eq_false c2
    by_cases c3 : ¬ (0 ≤ g2 ∧ g2 ≤ (l0.length : Int))
    · rw [if_neg c3] at h; cases h
    replace c3 := Classical.not_not.1 c3
    rw [if_pos c3] at h
    obtain ⟨⟨h1, h2, h3⟩, hh, h⟩ := Option.bind_eq_some_iff.mp h
    simp only at h
    by_cases c4 : h3 = 0
    · rw [if_pos c4] at h
      have d4 : (h3 != 0) = false := by rw [bne_eq_false_iff_eq]; exact c4
      by_cases c5 : h1 > 1024
      · rw [if_pos c5] at h
        simp only [Option.some.injEq, Prod.mk.injEq] at h
        obtain ⟨rfl, rfl, rfl, rfl⟩ := h
        exact ref_four k A0 c0 l0 g1 g2 g3 w hr0 hc0 hg d1 d2 c3.1 c3.2 _ rfl h1 h2 h3 hh d4 (decide_eq_true c5)
      rw [if_neg c5] at h
      have d5 := decide_eq_false c5
      by_cases c6 : ¬ (0 ≤ h1 ∧ 0 ≤ h2 ∧ g2 + h2 ≤ (l0.length : Int) ∧ (l0.length : Int) < 140737488355328)
      · rw [if_neg c6] at h; cases h
      replace c6 := Classical.not_not.1 c6
      rw [if_pos c6] at h
      have e1 : wrap64 (g2 + h2) = g2 + h2 := ref_wrap64 (by omega) (by omega)
      have e2 : wrap64 (g2 + h2 + 4) = g2 + h2 + 4 := ref_wrap64 (by omega) (by omega)
      have e3 : wrap64 (g2 + h2 + 4 + h1) = g2 + h2 + 4 + h1 := ref_wrap64 (by omega) (by omega)
      by_cases c7 : (l0.length : Int) < g2 + h2 + 4 + h1
      · rw [if_pos c7] at h
        simp only [Option.some.injEq, Prod.mk.injEq] at h
        obtain ⟨rfl, rfl, rfl, rfl⟩ := h
        exact ref_five k A0 c0 l0 g1 g2 g3 w hr0 hc0 hg d1 d2 c3.1 c3.2 _ rfl h1 h2 h3 hh d4 d5 _ e1 _ _ e2 e3 (decide_eq_true c7)
      rw [if_neg c7] at h
      obtain ⟨t, ht, h⟩ := Option.bind_eq_some_iff.mp h
      have ez : (l0.take ((g2 + h2).toNat + 4 + h1.toNat)).drop ((g2 + h2).toNat + 4) = (l0.take (g2 + h2 + 4 + h1).toNat).drop (g2 + h2 + 4).toNat := by
        rw [show (g2 + h2 + 4 + h1).toNat = (g2 + h2).toNat + 4 + h1.toNat by omega, show (g2 + h2 + 4).toNat = (g2 + h2).toNat + 4 by omega]
      have hl5 : ((l0.take ((g2 + h2).toNat + 4 + h1.toNat)).drop ((g2 + h2).toNat + 4)).length < 140737488355328 := by rw [List.length_drop, List.length_take]; omega
      by_cases c9 : t = refBE l0 (g2 + h2)
      · rw [if_pos c9] at h
        simp only [Option.some.injEq, Prod.mk.injEq] at h
        obtain ⟨rfl, rfl, rfl, rfl⟩ := h
        exact ref_seven k A0 c0 l0 _ g2 g3 w hr0 hc0 hg d1 d2 c3.1 c3.2 _ rfl h1 h2 h3 hh d4 d5 _ e1 _ _ e2 e3 (decide_eq_false c7) (by omega) (by omega) (by omega) (by omega) (by omega) _ ez hl5 k t ht _ rfl (by rw [bne_eq_false_iff_eq]; exact c9)
      · rw [if_neg c9] at h
        simp only [Option.some.injEq, Prod.mk.injEq] at h
        obtain ⟨rfl, rfl, rfl, rfl⟩ := h
        exact ref_six k A0 c0 l0 g1 g2 g3 w hr0 hc0 hg d1 d2 c3.1 c3.2 _ rfl h1 h2 h3 hh d4 d5 _ e1 _ _ e2 e3 (decide_eq_false c7) (by omega) (by omega) (by omega) (by omega) (by omega) _ ez hl5 k t ht _ rfl (by rw [bne_iff_ne]; exact c9)
    · rw [if_neg c4] at h
      simp only [Option.some.injEq, Prod.mk.injEq] at h
      obtain ⟨rfl, rfl, rfl, rfl⟩ := h
      exact ref_three k A0 c0 l0 g1 g2 g3 w hr0 hc0 hg d1 d2 c3.1 c3.2 _ rfl h1 h2 h3 hh (by rw [bne_iff_ne]; exact c4)
  · rw [if_neg c1] at h
    simp only [Option.some.injEq, Prod.mk.injEq] at h
    obtain ⟨rfl, rfl, rfl, rfl⟩ := h
    exact ref_one k A0 c0 l0 g1 g2 g3 w hr0 hc0 hg (by rw [bne_iff_ne]; exact c1)

end Go.Proofs.Ytdkdgghonfoccaa.PAll
