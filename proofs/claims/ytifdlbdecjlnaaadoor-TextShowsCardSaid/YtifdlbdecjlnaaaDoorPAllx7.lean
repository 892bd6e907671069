/- The machine's side of this claim, written by a program of this session out of the translation: for each Go function a Lean function of its answers, and the proof that the code comes to just these. Conditions: those that each theorem states. -/
import Derived.Test.YtifdlbdecjlnaaaDoorPAllx0
import Derived.Test.YtifdlbdecjlnaaaDoorPAllx2
import Derived.Test.YtifdlbdecjlnaaaDoorPAllx3
import Derived.Test.YtifdlbdecjlnaaaDoorPAllx4
import Derived.Test.YtifdlbdecjlnaaaDoorPAllx6
namespace Go.Proofs.YtifdlbdecjlnaaaDoor.PAll
open Go.RowKit Go.Proofs.YtifdlbdecjlnaaaDoorW.PrintWords Go.Proofs.YtifdlbdecjlnaaaDoorW.PrintLast Go.Proofs.YtifdlbdecjlnaaaDoorW.PrintMore
attribute [local go_sem] max2_int min2_int max_two min_two max_three min_three max_four min_four   -- for this text's walks alone
set_option linter.unusedVariables false
set_option linter.unusedSimpArgs false

/-! ### colloquyref14_Show: function 15 -/
mutual
def colloquyref14_Show.j0 : Nat → Bool → Int → Int → Int → Int → Int → ByteArray → Option (ByteArray × Int)
  | 0, _, _, _, _, _, _, _ => none
  | k + 1, x25, x175000, x175001, x175002, x175003, x175004, x175005 => if x25 = true then (some ((⟨#[]⟩ : ByteArray), 1)) else ((colloquyref14_Words.f).bind fun t175 => (if 0 ≤ x175002 then (if x175002 < (t175.length : Int) then (if 1 + (rdOf ByteArray.empty t175 x175002).size ≤ 9223372036854775807 then (if ((⟨#[47]⟩ : ByteArray) ++ (rdOf ByteArray.empty t175 x175002)).size + 1 ≤ 9223372036854775807 then ((colloquyref14_digits.f k x175003).bind fun t179 => (if (((⟨#[47]⟩ : ByteArray) ++ (rdOf ByteArray.empty t175 x175002)) ++ (⟨#[32]⟩ : ByteArray)).size + t179.size ≤ 9223372036854775807 then ((colloquyref14_numbered.f x175002).bind fun t180 => (if t180 = true then (if x175004 < 1 then (some ((⟨#[]⟩ : ByteArray), 1)) else (if x175004 > 1073741824 then (some ((⟨#[]⟩ : ByteArray), 1)) else (if ((((⟨#[47]⟩ : ByteArray) ++ (rdOf ByteArray.empty t175 x175002)) ++ (⟨#[32]⟩ : ByteArray)) ++ t179).size + 1 ≤ 9223372036854775807 then ((colloquyref14_digits.f k x175004).bind fun t181 => (if (((((⟨#[47]⟩ : ByteArray) ++ (rdOf ByteArray.empty t175 x175002)) ++ (⟨#[32]⟩ : ByteArray)) ++ t179) ++ (⟨#[32]⟩ : ByteArray)).size + t181.size ≤ 9223372036854775807 then (colloquyref14_Show.j1 k ((((((⟨#[47]⟩ : ByteArray) ++ (rdOf ByteArray.empty t175 x175002)) ++ (⟨#[32]⟩ : ByteArray)) ++ t179) ++ (⟨#[32]⟩ : ByteArray)) ++ t181) x175000 x175001 x175002 x175003 x175004 x175005) else (none))) else (none)))) else (colloquyref14_Show.j1 k ((((⟨#[47]⟩ : ByteArray) ++ (rdOf ByteArray.empty t175 x175002)) ++ (⟨#[32]⟩ : ByteArray)) ++ t179) x175000 x175001 x175002 x175003 x175004 x175005))) else (none))) else (none)) else (none)) else (none)) else (none)))
def colloquyref14_Show.j1 : Nat → ByteArray → Int → Int → Int → Int → Int → ByteArray → Option (ByteArray × Int)
  | 0, _, _, _, _, _, _, _ => none
  | k + 1, x5, x175000, x175001, x175002, x175003, x175004, x175005 => (colloquyref14_worded.f x175002).bind fun t182 => ((colloquyref14_May.f k x175005).bind fun t183 => (if t182 = true then (colloquyref14_Show.j2 k x5 t182 (!t183) x175000 x175001 x175002 x175003 x175004 x175005) else (colloquyref14_Show.j2 k x5 t182 false x175000 x175001 x175002 x175003 x175004 x175005)))
def colloquyref14_Show.j2 : Nat → ByteArray → Bool → Bool → Int → Int → Int → Int → Int → ByteArray → Option (ByteArray × Int)
  | 0, _, _, _, _, _, _, _, _, _ => none
  | k + 1, x5, x6, x66, x175000, x175001, x175002, x175003, x175004, x175005 => if x66 = true then (some ((⟨#[]⟩ : ByteArray), 1)) else (if x6 = true then (if x5.size + 1 ≤ 9223372036854775807 then (if (x5 ++ (⟨#[32]⟩ : ByteArray)).size + x175005.size ≤ 9223372036854775807 then (some ((x5 ++ (⟨#[32]⟩ : ByteArray)) ++ x175005, 0)) else (none)) else (none)) else (some (x5, 0)))
end
def colloquyref14_Show.f (k : Nat) (a0_0 : Int) (a0_1 : Int) (a0_2 : Int) (a0_3 : Int) (a0_4 : Int) (a0_5 : ByteArray) : Option (ByteArray × Int) := if a0_2 < 1 then (colloquyref14_Show.j0 k true a0_0 a0_1 a0_2 a0_3 a0_4 a0_5) else (if a0_2 ≥ 8 then (colloquyref14_Show.j0 k true a0_0 a0_1 a0_2 a0_3 a0_4 a0_5) else (if a0_3 < 1 then (colloquyref14_Show.j0 k true a0_0 a0_1 a0_2 a0_3 a0_4 a0_5) else (colloquyref14_Show.j0 k (decide (a0_3 > 1048576)) a0_0 a0_1 a0_2 a0_3 a0_4 a0_5)))
theorem colloquyref14_Show.mono_l : ∀ k, (∀ y0 y1 y2 y3 y4 y5 y6, LeO (colloquyref14_Show.j0 k y0 y1 y2 y3 y4 y5 y6) (colloquyref14_Show.j0 (k + 1) y0 y1 y2 y3 y4 y5 y6)) ∧ (∀ y0 y1 y2 y3 y4 y5 y6, LeO (colloquyref14_Show.j1 k y0 y1 y2 y3 y4 y5 y6) (colloquyref14_Show.j1 (k + 1) y0 y1 y2 y3 y4 y5 y6)) ∧ (∀ y0 y1 y2 y3 y4 y5 y6 y7 y8, LeO (colloquyref14_Show.j2 k y0 y1 y2 y3 y4 y5 y6 y7 y8) (colloquyref14_Show.j2 (k + 1) y0 y1 y2 y3 y4 y5 y6 y7 y8))
  | 0 => ⟨fun _ _ _ _ _ _ _ r h => by simp [colloquyref14_Show.j0] at h, fun _ _ _ _ _ _ _ r h => by simp [colloquyref14_Show.j1] at h, fun _ _ _ _ _ _ _ _ _ r h => by simp [colloquyref14_Show.j2] at h⟩
  | k + 1 => by
    obtain ⟨ih0, ih1, ih2⟩ := colloquyref14_Show.mono_l k
    refine ⟨?_, ?_, ?_⟩
    · intro y0 y1 y2 y3 y4 y5 y6
      unfold colloquyref14_Show.j0
      repeat' first
      | (with_reducible exact ih0 _ _ _ _ _ _ _)
      | (with_reducible exact ih1 _ _ _ _ _ _ _)
      | (with_reducible exact ih2 _ _ _ _ _ _ _ _ _)
      | (with_reducible exact colloquyref14_May.mono _ _)
      | (with_reducible exact colloquyref14_digits.mono _ _)
      | (with_reducible exact LeO.refl _)
      | (with_reducible exact LeO.none _)
      | (with_reducible refine LeO.ite ?_ ?_)
      | (with_reducible refine LeO.bind ?_ (fun _ => ?_))
      | exact ih0 _ _ _ _ _ _ _
      | exact ih1 _ _ _ _ _ _ _
      | exact ih2 _ _ _ _ _ _ _ _ _
      | exact colloquyref14_May.mono _ _
      | exact colloquyref14_digits.mono _ _
      | exact LeO.none _
      | refine LeO.ite ?_ ?_
      | refine LeO.bind ?_ (fun _ => ?_)
    · intro y0 y1 y2 y3 y4 y5 y6
      unfold colloquyref14_Show.j1
      repeat' first
      | (with_reducible exact ih0 _ _ _ _ _ _ _)
      | (with_reducible exact ih1 _ _ _ _ _ _ _)
      | (with_reducible exact ih2 _ _ _ _ _ _ _ _ _)
      | (with_reducible exact colloquyref14_May.mono _ _)
      | (with_reducible exact colloquyref14_digits.mono _ _)
      | (with_reducible exact LeO.refl _)
      | (with_reducible exact LeO.none _)
      | (with_reducible refine LeO.ite ?_ ?_)
      | (with_reducible refine LeO.bind ?_ (fun _ => ?_))
      | exact ih0 _ _ _ _ _ _ _
      | exact ih1 _ _ _ _ _ _ _
      | exact ih2 _ _ _ _ _ _ _ _ _
      | exact colloquyref14_May.mono _ _
      | exact colloquyref14_digits.mono _ _
      | exact LeO.none _
      | refine LeO.ite ?_ ?_
      | refine LeO.bind ?_ (fun _ => ?_)
    · intro y0 y1 y2 y3 y4 y5 y6 y7 y8
      unfold colloquyref14_Show.j2
      repeat' first
      | (with_reducible exact ih0 _ _ _ _ _ _ _)
      | (with_reducible exact ih1 _ _ _ _ _ _ _)
      | (with_reducible exact ih2 _ _ _ _ _ _ _ _ _)
      | (with_reducible exact colloquyref14_May.mono _ _)
      | (with_reducible exact colloquyref14_digits.mono _ _)
      | (with_reducible exact LeO.refl _)
      | (with_reducible exact LeO.none _)
      | (with_reducible refine LeO.ite ?_ ?_)
      | (with_reducible refine LeO.bind ?_ (fun _ => ?_))
      | exact ih0 _ _ _ _ _ _ _
      | exact ih1 _ _ _ _ _ _ _
      | exact ih2 _ _ _ _ _ _ _ _ _
      | exact colloquyref14_May.mono _ _
      | exact colloquyref14_digits.mono _ _
      | exact LeO.none _
      | refine LeO.ite ?_ ?_
      | refine LeO.bind ?_ (fun _ => ?_)
theorem colloquyref14_Show.mono : ∀ a0 a1 a2 a3 a4 a5 k, LeO (colloquyref14_Show.f k a0 a1 a2 a3 a4 a5) (colloquyref14_Show.f (k + 1) a0 a1 a2 a3 a4 a5) := by
  intro a0 a1 a2 a3 a4 a5 k
  obtain ⟨ih0, ih1, ih2⟩ := colloquyref14_Show.mono_l k
  unfold colloquyref14_Show.f
  repeat' first
      | (with_reducible exact ih0 _ _ _ _ _ _ _)
      | (with_reducible exact ih1 _ _ _ _ _ _ _)
      | (with_reducible exact ih2 _ _ _ _ _ _ _ _ _)
      | (with_reducible exact colloquyref14_May.mono _ _)
      | (with_reducible exact colloquyref14_digits.mono _ _)
      | (with_reducible exact LeO.refl _)
      | (with_reducible exact LeO.none _)
      | (with_reducible refine LeO.ite ?_ ?_)
      | (with_reducible refine LeO.bind ?_ (fun _ => ?_))
      | exact ih0 _ _ _ _ _ _ _
      | exact ih1 _ _ _ _ _ _ _
      | exact ih2 _ _ _ _ _ _ _ _ _
      | exact colloquyref14_May.mono _ _
      | exact colloquyref14_digits.mono _ _
      | exact LeO.none _
      | refine LeO.ite ?_ ?_
      | refine LeO.bind ?_ (fun _ => ?_)
def colloquyref14_Show.T4 : Bool × List (List Nat × List Nat) := (true, [([], []), ([], []), ([1], [1]), ([0, 2], [0, 2]), ([3], [3]), ([4], [4]), ([5], [5]), ([], []), ([7], [7]), ([8], [8]), ([6, 9], [6, 9]), ([10, 9, 0, 1, 2, 3, 4, 5, 6, 7, 8, 9, 10], [10])])
def colloquyref14_Show.B4 : List Nat := [0, 0, 2, 7, 15, 31, 63, 0, 128, 384, 1023, 2047]
theorem colloquyref14_Show.tab4 : rtab .any (opsOf Tryd.f15 4) = colloquyref14_Show.T4 := by kernel_rfl
theorem colloquyref14_Show.bits4 : waitsOk colloquyref14_Show.T4.2 colloquyref14_Show.B4 = true := by kernel_rfl
set_option maxHeartbeats 8000000 in
set_option maxRecDepth 100000 in
theorem colloquyref14_Show.calls (k : Nat) (a0_0 : Int) (a0_1 : Int) (a0_2 : Int) (a0_3 : Int) (a0_4 : Int) (a0_5 : ByteArray) (r1 : ByteArray) (r2 : Int) (w : World) (h : colloquyref14_Show.f k a0_0 a0_1 a0_2 a0_3 a0_4 a0_5 = some (r1, r2)) :
    Calls Tryd.prog 15 #[.agg #[.int .i64 a0_0, .int .i64 a0_1, .int .i64 a0_2, .int .i64 a0_3, .int .i64 a0_4, .string a0_5]] w fun e w' => e = .returned (.tuple #[.string r1, .int .i64 r2]) ∧ Below w.heap.size w w' := by
  have hu24 := Tryd.underlying24
  have HB := Aside0.mk (Below.refl w.heap.size w)
  have H : (if a0_2 < 1 then (colloquyref14_Show.j0 k true a0_0 a0_1 a0_2 a0_3 a0_4 a0_5) else (if a0_2 ≥ 8 then (colloquyref14_Show.j0 k true a0_0 a0_1 a0_2 a0_3 a0_4 a0_5) else (if a0_3 < 1 then (colloquyref14_Show.j0 k true a0_0 a0_1 a0_2 a0_3 a0_4 a0_5) else (colloquyref14_Show.j0 k (decide (a0_3 > 1048576)) a0_0 a0_1 a0_2 a0_3 a0_4 a0_5)))) = some (r1, r2) := h
  clear h
  have HC2 := Aside0.mk H
  clear H
  go_enter Tryd.func15, Tryd.ntmps15
  go_upto_region 1 with (first | ((with_reducible refine gate_dst (N := 1) rfl ?_); refine box_event ?hg (N := 1) ?hd (cs := #[.int .i64 a0_0, .int .i64 a0_1, .int .i64 a0_2, .int .i64 a0_3, .int .i64 a0_4, .string a0_5]) (t := 24) ?hr ?_; (case hd => rfl); (case hg => rfl); (case hr => first | (go_simp; done) | (go_simp; rfl)); intro gb174 hg w3 hbox hb; have n0_ := Aside0.mk (below_step (by repeat (first | (with_reducible first | exact HB.out | apply below_alloc | apply pw_below_drewN | apply below_drew1) | exact HB.out)) hb); have n1_ := Aside0.mk (hbox); have n2_ := Aside0.mk ((by rw [hg]; exact (below_size (by repeat (first | (with_reducible first | exact HB.out | apply below_alloc | apply pw_below_drewN | apply below_drew1) | exact HB.out))) : w.heap.size ≤ gb174)); have n3_ := Aside0.mk ((by rw [hg]; exact (below_size (by repeat (first | (with_reducible first | exact HB.out | apply below_alloc | apply pw_below_drewN | apply below_drew1) | exact HB.out))) : w.heap.size ≤ gb174)); clear HB; have HB := n0_; have BK174 := n1_; have GW174 := n2_; have GE174 := n3_; clear n0_ n1_ n2_ n3_; clear hb hbox hg))
  (try simp only [Act.put, List.setIfInBounds_toArray, List.set_cons_zero, List.set_cons_succ])
  go_cut [25] (fun v25 wc => ∃ (kq : Nat) (x25_1 : Bool), v25 = .bool x25_1 ∧ Aside0 (colloquyref14_Show.j0 kq x25_1 a0_0 a0_1 a0_2 a0_3 a0_4 a0_5 = some (r1, r2)) ∧ Aside0 (kq ≤ k) ∧ Aside0 (wc.heap[gb174]? = some (.cells #[.int .i64 a0_0, .int .i64 a0_1, .int .i64 a0_2, .int .i64 a0_3, .int .i64 a0_4, .string a0_5] 24 (0, 0))) ∧ Aside0 (Below w.heap.size w wc))
  case first =>
    have H := HC2.out
    clear HC2
    by_cases c4 : a0_2 < 1
    · rw [if_pos c4] at H
      have c4b0 : decide (a0_2 < 1) = true := decide_eq_true c4
      clear c4
      (first | rw [c4b0] | (simp only [i64_w, i32_w]; rw [c4b0]) | skip)
      have H' := Aside0.mk H
      clear H
      have hcz5_0 : w3.cell? ⟨gb174, 0, none⟩ = some (.int .i64 a0_0) := (blk_cell BK174.out 0).trans rfl
      have hcz5_1 : w3.cell? ⟨gb174, 1, none⟩ = some (.int .i64 a0_1) := (blk_cell BK174.out 1).trans rfl
      have hcz5_2 : w3.cell? ⟨gb174, 2, none⟩ = some (.int .i64 a0_2) := (blk_cell BK174.out 2).trans rfl
      have hcz5_3 : w3.cell? ⟨gb174, 3, none⟩ = some (.int .i64 a0_3) := (blk_cell BK174.out 3).trans rfl
      have hcz5_4 : w3.cell? ⟨gb174, 4, none⟩ = some (.int .i64 a0_4) := (blk_cell BK174.out 4).trans rfl
      have hcz5_5 : w3.cell? ⟨gb174, 5, none⟩ = some (.string a0_5) := (blk_cell BK174.out 5).trans rfl
      have hfz5_0 := blk_frozen BK174.out 0
      have hfz5_1 := blk_frozen BK174.out 1
      have hfz5_2 := blk_frozen BK174.out 2
      have hfz5_3 := blk_frozen BK174.out 3
      have hfz5_4 := blk_frozen BK174.out 4
      have hfz5_5 := blk_frozen BK174.out 5
      go_wp2
      go_meet
      case rel => exact ⟨_, (true), (by first | rfl | (simp; done) | (simp [*]; done)), H', ⟨by first | omega | exact Nat.le_refl _⟩, ⟨by (with_reducible repeat (first | refine blk_drewN ?_ _ | refine blk_drew ?_ | refine blk_alloc ?_ _)); exact BK174.out⟩, ⟨by repeat (first | (with_reducible first | exact HB.out | apply below_alloc | apply pw_below_drewN | apply below_drew1 | refine below_set ?_ GE174.out) | exact HB.out)⟩⟩
    · rw [if_neg c4] at H
      have c4b0 : decide (a0_2 < 1) = false := decide_eq_false c4
      clear c4
      (first | rw [c4b0] | (simp only [i64_w, i32_w]; rw [c4b0]) | skip)
      by_cases c6 : a0_2 ≥ 8
      · rw [if_pos c6] at H
        have c6b0 : decide (8 ≤ a0_2) = true := decide_eq_true c6
        clear c6
        have H' := Aside0.mk H
        clear H
        have hcz7_0 : w3.cell? ⟨gb174, 0, none⟩ = some (.int .i64 a0_0) := (blk_cell BK174.out 0).trans rfl
        have hcz7_1 : w3.cell? ⟨gb174, 1, none⟩ = some (.int .i64 a0_1) := (blk_cell BK174.out 1).trans rfl
        have hcz7_2 : w3.cell? ⟨gb174, 2, none⟩ = some (.int .i64 a0_2) := (blk_cell BK174.out 2).trans rfl
        have hcz7_3 : w3.cell? ⟨gb174, 3, none⟩ = some (.int .i64 a0_3) := (blk_cell BK174.out 3).trans rfl
        have hcz7_4 : w3.cell? ⟨gb174, 4, none⟩ = some (.int .i64 a0_4) := (blk_cell BK174.out 4).trans rfl
        have hcz7_5 : w3.cell? ⟨gb174, 5, none⟩ = some (.string a0_5) := (blk_cell BK174.out 5).trans rfl
        have hfz7_0 := blk_frozen BK174.out 0
        have hfz7_1 := blk_frozen BK174.out 1
        have hfz7_2 := blk_frozen BK174.out 2
        have hfz7_3 := blk_frozen BK174.out 3
        have hfz7_4 := blk_frozen BK174.out 4
        have hfz7_5 := blk_frozen BK174.out 5
        go_wp2
        go_meet
        case rel => exact ⟨_, (true), (by first | rfl | (simp; done) | (simp [*]; done)), H', ⟨by first | omega | exact Nat.le_refl _⟩, ⟨by (with_reducible repeat (first | refine blk_drewN ?_ _ | refine blk_drew ?_ | refine blk_alloc ?_ _)); exact BK174.out⟩, ⟨by repeat (first | (with_reducible first | exact HB.out | apply below_alloc | apply pw_below_drewN | apply below_drew1 | refine below_set ?_ GE174.out) | exact HB.out)⟩⟩
      · rw [if_neg c6] at H
        have c6b0 : decide (8 ≤ a0_2) = false := decide_eq_false c6
        clear c6
        by_cases c8 : a0_3 < 1
        · rw [if_pos c8] at H
          have c8b0 : decide (a0_3 < 1) = true := decide_eq_true c8
          clear c8
          have H' := Aside0.mk H
          clear H
          have hcz9_0 : w3.cell? ⟨gb174, 0, none⟩ = some (.int .i64 a0_0) := (blk_cell BK174.out 0).trans rfl
          have hcz9_1 : w3.cell? ⟨gb174, 1, none⟩ = some (.int .i64 a0_1) := (blk_cell BK174.out 1).trans rfl
          have hcz9_2 : w3.cell? ⟨gb174, 2, none⟩ = some (.int .i64 a0_2) := (blk_cell BK174.out 2).trans rfl
          have hcz9_3 : w3.cell? ⟨gb174, 3, none⟩ = some (.int .i64 a0_3) := (blk_cell BK174.out 3).trans rfl
          have hcz9_4 : w3.cell? ⟨gb174, 4, none⟩ = some (.int .i64 a0_4) := (blk_cell BK174.out 4).trans rfl
          have hcz9_5 : w3.cell? ⟨gb174, 5, none⟩ = some (.string a0_5) := (blk_cell BK174.out 5).trans rfl
          have hfz9_0 := blk_frozen BK174.out 0
          have hfz9_1 := blk_frozen BK174.out 1
          have hfz9_2 := blk_frozen BK174.out 2
          have hfz9_3 := blk_frozen BK174.out 3
          have hfz9_4 := blk_frozen BK174.out 4
          have hfz9_5 := blk_frozen BK174.out 5
          go_wp2
          go_meet
          case rel => exact ⟨_, (true), (by first | rfl | (simp; done) | (simp [*]; done)), H', ⟨by first | omega | exact Nat.le_refl _⟩, ⟨by (with_reducible repeat (first | refine blk_drewN ?_ _ | refine blk_drew ?_ | refine blk_alloc ?_ _)); exact BK174.out⟩, ⟨by repeat (first | (with_reducible first | exact HB.out | apply below_alloc | apply pw_below_drewN | apply below_drew1 | refine below_set ?_ GE174.out) | exact HB.out)⟩⟩
        · rw [if_neg c8] at H
          have c8b0 : decide (a0_3 < 1) = false := decide_eq_false c8
          clear c8
          have H' := Aside0.mk H
          clear H
          have hcz10_0 : w3.cell? ⟨gb174, 0, none⟩ = some (.int .i64 a0_0) := (blk_cell BK174.out 0).trans rfl
          have hcz10_1 : w3.cell? ⟨gb174, 1, none⟩ = some (.int .i64 a0_1) := (blk_cell BK174.out 1).trans rfl
          have hcz10_2 : w3.cell? ⟨gb174, 2, none⟩ = some (.int .i64 a0_2) := (blk_cell BK174.out 2).trans rfl
          have hcz10_3 : w3.cell? ⟨gb174, 3, none⟩ = some (.int .i64 a0_3) := (blk_cell BK174.out 3).trans rfl
          have hcz10_4 : w3.cell? ⟨gb174, 4, none⟩ = some (.int .i64 a0_4) := (blk_cell BK174.out 4).trans rfl
          have hcz10_5 : w3.cell? ⟨gb174, 5, none⟩ = some (.string a0_5) := (blk_cell BK174.out 5).trans rfl
          have hfz10_0 := blk_frozen BK174.out 0
          have hfz10_1 := blk_frozen BK174.out 1
          have hfz10_2 := blk_frozen BK174.out 2
          have hfz10_3 := blk_frozen BK174.out 3
          have hfz10_4 := blk_frozen BK174.out 4
          have hfz10_5 := blk_frozen BK174.out 5
          go_wp2
          go_meet
          case rel => exact ⟨_, (decide (a0_3 > 1048576)), (by first | rfl | (simp; done) | (simp [*]; done)), H', ⟨by first | omega | exact Nat.le_refl _⟩, ⟨by (with_reducible repeat (first | refine blk_drewN ?_ _ | refine blk_drew ?_ | refine blk_alloc ?_ _)); exact BK174.out⟩, ⟨by repeat (first | (with_reducible first | exact HB.out | apply below_alloc | apply pw_below_drewN | apply below_drew1 | refine below_set ?_ GE174.out) | exact HB.out)⟩⟩
  case rest =>
    clear HC2
    try clear c1
    try clear p2
    try clear c4
    try clear c4b0
    try clear c6
    try clear c6b0
    try clear c8
    try clear c8b0
    try clear hcz10_0
    try clear hcz10_1
    try clear hcz10_2
    try clear hcz10_3
    try clear hcz10_4
    try clear hcz10_5
    try clear hcz5_0
    try clear hcz5_1
    try clear hcz5_2
    try clear hcz5_3
    try clear hcz5_4
    try clear hcz5_5
    try clear hcz7_0
    try clear hcz7_1
    try clear hcz7_2
    try clear hcz7_3
    try clear hcz7_4
    try clear hcz7_5
    try clear hcz9_0
    try clear hcz9_1
    try clear hcz9_2
    try clear hcz9_3
    try clear hcz9_4
    try clear hcz9_5
    try clear hfz10_0
    try clear hfz10_1
    try clear hfz10_2
    try clear hfz10_3
    try clear hfz10_4
    try clear hfz10_5
    try clear hfz5_0
    try clear hfz5_1
    try clear hfz5_2
    try clear hfz5_3
    try clear hfz5_4
    try clear hfz5_5
    try clear hfz7_0
    try clear hfz7_1
    try clear hfz7_2
    try clear hfz7_3
    try clear hfz7_4
    try clear hfz7_5
    try clear hfz9_0
    try clear hfz9_1
    try clear hfz9_2
    try clear hfz9_3
    try clear hfz9_4
    try clear hfz9_5
    obtain ⟨kq, x25_1, rfl, HA, HJ1, BK174, HB⟩ := hcut
    cases kq with
    | zero => exact absurd HA.out (by simp [colloquyref14_Show.j0])
    | succ kj1 =>
      have H := HA.out
      clear HA
      simp only [colloquyref14_Show.j0] at H
      by_cases c11 : x25_1 = true
      · subst c11
        have H1 : (some ((⟨#[]⟩ : ByteArray), 1)) = some (r1, r2) := by rw [if_pos rfl] at H; exact H
        clear H
        have H := H1
        clear H1
        simp only [Option.some.injEq, Prod.mk.injEq] at H
        obtain ⟨rfl, rfl⟩ := H
        go_wp2
        go_ret2
        exact ⟨by first | rfl | (simp [errW_none, errW_some] <;> rfl) | (simp [*, errW_none, errW_some] <;> rfl), by repeat (first | (with_reducible first | exact HB.out | apply below_alloc | apply pw_below_drewN | apply below_drew1 | refine below_set ?_ GE174.out) | exact HB.out)⟩
      · replace c11 := Bool.eq_false_iff.mpr c11
        subst c11
        have H1 : ((colloquyref14_Words.f).bind fun t175 => (if 0 ≤ a0_2 then (if a0_2 < (t175.length : Int) then (if 1 + (rdOf ByteArray.empty t175 a0_2).size ≤ 9223372036854775807 then (if ((⟨#[47]⟩ : ByteArray) ++ (rdOf ByteArray.empty t175 a0_2)).size + 1 ≤ 9223372036854775807 then ((colloquyref14_digits.f kj1 a0_3).bind fun t179 => (if (((⟨#[47]⟩ : ByteArray) ++ (rdOf ByteArray.empty t175 a0_2)) ++ (⟨#[32]⟩ : ByteArray)).size + t179.size ≤ 9223372036854775807 then ((colloquyref14_numbered.f a0_2).bind fun t180 => (if t180 = true then (if a0_4 < 1 then (some ((⟨#[]⟩ : ByteArray), 1)) else (if a0_4 > 1073741824 then (some ((⟨#[]⟩ : ByteArray), 1)) else (if ((((⟨#[47]⟩ : ByteArray) ++ (rdOf ByteArray.empty t175 a0_2)) ++ (⟨#[32]⟩ : ByteArray)) ++ t179).size + 1 ≤ 9223372036854775807 then ((colloquyref14_digits.f kj1 a0_4).bind fun t181 => (if (((((⟨#[47]⟩ : ByteArray) ++ (rdOf ByteArray.empty t175 a0_2)) ++ (⟨#[32]⟩ : ByteArray)) ++ t179) ++ (⟨#[32]⟩ : ByteArray)).size + t181.size ≤ 9223372036854775807 then (colloquyref14_Show.j1 kj1 ((((((⟨#[47]⟩ : ByteArray) ++ (rdOf ByteArray.empty t175 a0_2)) ++ (⟨#[32]⟩ : ByteArray)) ++ t179) ++ (⟨#[32]⟩ : ByteArray)) ++ t181) a0_0 a0_1 a0_2 a0_3 a0_4 a0_5) else (none))) else (none)))) else (colloquyref14_Show.j1 kj1 ((((⟨#[47]⟩ : ByteArray) ++ (rdOf ByteArray.empty t175 a0_2)) ++ (⟨#[32]⟩ : ByteArray)) ++ t179) a0_0 a0_1 a0_2 a0_3 a0_4 a0_5))) else (none))) else (none)) else (none)) else (none)) else (none))) = some (r1, r2) := by rw [if_neg (show ¬ (false = true) by decide)] at H; exact H
        clear H
        have H := H1
        clear H1
        replace H := Option.bind_eq_some_iff.mp H
        obtain ⟨t175, A120, H⟩ := H
        replace H : (if 0 ≤ a0_2 then (if a0_2 < (t175.length : Int) then (if 1 + (rdOf ByteArray.empty t175 a0_2).size ≤ 9223372036854775807 then (if ((⟨#[47]⟩ : ByteArray) ++ (rdOf ByteArray.empty t175 a0_2)).size + 1 ≤ 9223372036854775807 then ((colloquyref14_digits.f kj1 a0_3).bind fun t179 => (if (((⟨#[47]⟩ : ByteArray) ++ (rdOf ByteArray.empty t175 a0_2)) ++ (⟨#[32]⟩ : ByteArray)).size + t179.size ≤ 9223372036854775807 then ((colloquyref14_numbered.f a0_2).bind fun t180 => (if t180 = true then (if a0_4 < 1 then (some ((⟨#[]⟩ : ByteArray), 1)) else (if a0_4 > 1073741824 then (some ((⟨#[]⟩ : ByteArray), 1)) else (if ((((⟨#[47]⟩ : ByteArray) ++ (rdOf ByteArray.empty t175 a0_2)) ++ (⟨#[32]⟩ : ByteArray)) ++ t179).size + 1 ≤ 9223372036854775807 then ((colloquyref14_digits.f kj1 a0_4).bind fun t181 => (if (((((⟨#[47]⟩ : ByteArray) ++ (rdOf ByteArray.empty t175 a0_2)) ++ (⟨#[32]⟩ : ByteArray)) ++ t179) ++ (⟨#[32]⟩ : ByteArray)).size + t181.size ≤ 9223372036854775807 then (colloquyref14_Show.j1 kj1 ((((((⟨#[47]⟩ : ByteArray) ++ (rdOf ByteArray.empty t175 a0_2)) ++ (⟨#[32]⟩ : ByteArray)) ++ t179) ++ (⟨#[32]⟩ : ByteArray)) ++ t181) a0_0 a0_1 a0_2 a0_3 a0_4 a0_5) else (none))) else (none)))) else (colloquyref14_Show.j1 kj1 ((((⟨#[47]⟩ : ByteArray) ++ (rdOf ByteArray.empty t175 a0_2)) ++ (⟨#[32]⟩ : ByteArray)) ++ t179) a0_0 a0_1 a0_2 a0_3 a0_4 a0_5))) else (none))) else (none)) else (none)) else (none)) else (none)) = some (r1, r2) := H
        have A12 := Aside0.mk A120
        clear A120
        by_cases c13 : 0 ≤ a0_2
        · rw [if_pos c13] at H
          have c13b0 : decide (0 ≤ a0_2) = true := decide_eq_true c13
          clear c13
          by_cases c14 : a0_2 < (t175.length : Int)
          · rw [if_pos c14] at H
            have c14b0 : decide (a0_2 < (t175.length : Int)) = true := decide_eq_true c14
            clear c14
            by_cases c15 : 1 + (rdOf ByteArray.empty t175 a0_2).size ≤ 9223372036854775807
            · rw [if_pos c15] at H
              have c15b0 := eq_true c15
              have c15b1 : decide (1 + (rdOf ByteArray.empty t175 a0_2).size ≤ 9223372036854775807) = true := decide_eq_true c15
              try have c15b2 : (9223372036854775807 < 1 + (rdOf ByteArray.empty t175 a0_2).size) = False := eq_false (Nat.not_lt.2 c15)
              by_cases c16 : ((⟨#[47]⟩ : ByteArray) ++ (rdOf ByteArray.empty t175 a0_2)).size + 1 ≤ 9223372036854775807
              · rw [if_pos c16] at H
                have c16b0 := eq_true c16
                have c16b1 : decide (((⟨#[47]⟩ : ByteArray) ++ (rdOf ByteArray.empty t175 a0_2)).size + 1 ≤ 9223372036854775807) = true := decide_eq_true c16
                try have c16b2 : (9223372036854775807 < ((⟨#[47]⟩ : ByteArray) ++ (rdOf ByteArray.empty t175 a0_2)).size + 1) = False := eq_false (Nat.not_lt.2 c16)
                replace H := Option.bind_eq_some_iff.mp H
                obtain ⟨t179, A170, H⟩ := H
                replace H : (if (((⟨#[47]⟩ : ByteArray) ++ (rdOf ByteArray.empty t175 a0_2)) ++ (⟨#[32]⟩ : ByteArray)).size + t179.size ≤ 9223372036854775807 then ((colloquyref14_numbered.f a0_2).bind fun t180 => (if t180 = true then (if a0_4 < 1 then (some ((⟨#[]⟩ : ByteArray), 1)) else (if a0_4 > 1073741824 then (some ((⟨#[]⟩ : ByteArray), 1)) else (if ((((⟨#[47]⟩ : ByteArray) ++ (rdOf ByteArray.empty t175 a0_2)) ++ (⟨#[32]⟩ : ByteArray)) ++ t179).size + 1 ≤ 9223372036854775807 then ((colloquyref14_digits.f kj1 a0_4).bind fun t181 => (if (((((⟨#[47]⟩ : ByteArray) ++ (rdOf ByteArray.empty t175 a0_2)) ++ (⟨#[32]⟩ : ByteArray)) ++ t179) ++ (⟨#[32]⟩ : ByteArray)).size + t181.size ≤ 9223372036854775807 then (colloquyref14_Show.j1 kj1 ((((((⟨#[47]⟩ : ByteArray) ++ (rdOf ByteArray.empty t175 a0_2)) ++ (⟨#[32]⟩ : ByteArray)) ++ t179) ++ (⟨#[32]⟩ : ByteArray)) ++ t181) a0_0 a0_1 a0_2 a0_3 a0_4 a0_5) else (none))) else (none)))) else (colloquyref14_Show.j1 kj1 ((((⟨#[47]⟩ : ByteArray) ++ (rdOf ByteArray.empty t175 a0_2)) ++ (⟨#[32]⟩ : ByteArray)) ++ t179) a0_0 a0_1 a0_2 a0_3 a0_4 a0_5))) else (none)) = some (r1, r2) := H
                have A17 := Aside0.mk A170
                clear A170
                by_cases c18 : (((⟨#[47]⟩ : ByteArray) ++ (rdOf ByteArray.empty t175 a0_2)) ++ (⟨#[32]⟩ : ByteArray)).size + t179.size ≤ 9223372036854775807
                · rw [if_pos c18] at H
                  have c18b0 := eq_true c18
                  have c18b1 : decide ((((⟨#[47]⟩ : ByteArray) ++ (rdOf ByteArray.empty t175 a0_2)) ++ (⟨#[32]⟩ : ByteArray)).size + t179.size ≤ 9223372036854775807) = true := decide_eq_true c18
                  try have c18b2 : (9223372036854775807 < (((⟨#[47]⟩ : ByteArray) ++ (rdOf ByteArray.empty t175 a0_2)) ++ (⟨#[32]⟩ : ByteArray)).size + t179.size) = False := eq_false (Nat.not_lt.2 c18)
                  replace H := Option.bind_eq_some_iff.mp H
                  obtain ⟨t180, A190, H⟩ := H
                  replace H : (if t180 = true then (if a0_4 < 1 then (some ((⟨#[]⟩ : ByteArray), 1)) else (if a0_4 > 1073741824 then (some ((⟨#[]⟩ : ByteArray), 1)) else (if ((((⟨#[47]⟩ : ByteArray) ++ (rdOf ByteArray.empty t175 a0_2)) ++ (⟨#[32]⟩ : ByteArray)) ++ t179).size + 1 ≤ 9223372036854775807 then ((colloquyref14_digits.f kj1 a0_4).bind fun t181 => (if (((((⟨#[47]⟩ : ByteArray) ++ (rdOf ByteArray.empty t175 a0_2)) ++ (⟨#[32]⟩ : ByteArray)) ++ t179) ++ (⟨#[32]⟩ : ByteArray)).size + t181.size ≤ 9223372036854775807 then (colloquyref14_Show.j1 kj1 ((((((⟨#[47]⟩ : ByteArray) ++ (rdOf ByteArray.empty t175 a0_2)) ++ (⟨#[32]⟩ : ByteArray)) ++ t179) ++ (⟨#[32]⟩ : ByteArray)) ++ t181) a0_0 a0_1 a0_2 a0_3 a0_4 a0_5) else (none))) else (none)))) else (colloquyref14_Show.j1 kj1 ((((⟨#[47]⟩ : ByteArray) ++ (rdOf ByteArray.empty t175 a0_2)) ++ (⟨#[32]⟩ : ByteArray)) ++ t179) a0_0 a0_1 a0_2 a0_3 a0_4 a0_5)) = some (r1, r2) := H
                  have A19 := Aside0.mk A190
                  clear A190
                  have HC20 := Aside0.mk H
                  clear H
                  try go_wp2_with (first | ((with_reducible refine gate_callee (f := 17) rfl ?_); refine goesL_ (some 26) rfl rfl Tryd.func17 (by kernel_rfl) rfl #[] rfl (by (try simp only [List.map_toArray, List.map_cons, List.map_nil]); first | done | rfl | (simp only [List.length_drop, List.length_take]; rfl)) ?_; (with_reducible refine (colloquyref14_Words.calls  t175 _ A12.out).mono ?_); rintro e w21 ⟨v176, rfl, ho0, hb⟩; refine ⟨_, rfl, ?_⟩; have n0_ := Aside0.mk (Kd.R_lower ho0 (below_size (by repeat (first | (with_reducible first | exact HB.out | apply below_alloc | apply pw_below_drewN | apply below_drew1 | refine below_set ?_ GE174.out) | exact HB.out)))); have n1_ := Aside0.mk (blk_below (g := gb174) (o := .cells #[.int .i64 a0_0, .int .i64 a0_1, .int .i64 a0_2, .int .i64 a0_3, .int .i64 a0_4, .string a0_5] 24 (0, 0)) (by (with_reducible repeat (first | refine blk_drewN ?_ _ | refine blk_drew ?_ | refine blk_alloc ?_ _)); exact BK174.out) hb); have n2_ := Aside0.mk (below_step (by repeat (first | (with_reducible first | exact HB.out | apply below_alloc | apply pw_below_drewN | apply below_drew1 | refine below_set ?_ GE174.out) | exact HB.out)) hb); clear BK174; clear HB; have HO177 := n0_; have BK174 := n1_; have HB := n2_; clear n0_ n1_ n2_; (try clear hb); (try clear hb2); (try clear hk); (try clear hi); (try clear ho0)))
                  have n0_ := Aside0.mk (Kd.R_drew HO177.out)
                  have n1_ := Aside0.mk (blk_drew BK174.out)
                  have n2_ := Aside0.mk (below_drew1 HB.out)
                  clear HO177
                  clear BK174
                  clear HB
                  have HO177 := n0_
                  have BK174 := n1_
                  have HB := n2_
                  clear n0_ n1_ n2_
                  obtain ⟨Ao23, co23, eo23⟩ := Kd.R_slice HO177.out
                  (first | subst eo23 | (injection eo23 with f1_ f2_ f3_; have f4_ := f1_.symm; have f5_ := f3_.symm; clear f1_ f2_ f3_; subst f4_; subst f5_))
                  have p178 : 0 ≤ (a0_2 : Int) := of_decide_eq_true (by first | (with_reducible assumption) | assumption)
                  have q178 : a0_2 < (t175.length : Int) := of_decide_eq_true (by first | (with_reducible assumption) | assumption)
                  obtain ⟨ad178, e178, hx178_0⟩ := Kd.at_string (Kd.R_reads' HO177.out).2.2 a0_2 p178 q178
                  cases e178
                  replace p178 := eq_true p178
                  replace q178 := eq_true q178
                  have z1_ : (⟨#[47]⟩ : ByteArray).size = 1 := rfl
                  have z2_ : (⟨#[32]⟩ : ByteArray).size = 1 := rfl
                  have c16x : (9223372036854775807 < 1 + (rdOf ByteArray.empty t175 a0_2).size + 1) = False := eq_false (by have h_ := c16; rw [ByteArray.size_append, z1_] at h_; omega)
                  have c18x : (9223372036854775807 < 1 + (rdOf ByteArray.empty t175 a0_2).size + 1 + t179.size) = False := eq_false (by have h_ := c18; rw [ByteArray.size_append, ByteArray.size_append, z1_, z2_] at h_; omega)
                  clear z1_ z2_
                  refine start_ (n := 12) (S := fun w' => w'.cell? ⟨gb174, 0, none⟩ = some (.int .i64 a0_0) ∧ w'.cell? ⟨gb174, 1, none⟩ = some (.int .i64 a0_1) ∧ w'.cell? ⟨gb174, 2, none⟩ = some (.int .i64 a0_2) ∧ w'.cell? ⟨gb174, 3, none⟩ = some (.int .i64 a0_3) ∧ w'.cell? ⟨gb174, 4, none⟩ = some (.int .i64 a0_4) ∧ w'.cell? ⟨gb174, 5, none⟩ = some (.string a0_5) ∧ w'.cell? (ad178.add (a0_2).toNat) = some (.string (rdOf ByteArray.empty t175 a0_2))) (ds := []) #[false, false, false, false, false, false, false, false, false, false, false, false] (by kernel_rfl) rfl rfl ⟨(blk_cell BK174.out 0).trans rfl, (blk_cell BK174.out 1).trans rfl, (blk_cell BK174.out 2).trans rfl, (blk_cell BK174.out 3).trans rfl, (blk_cell BK174.out 4).trans rfl, (blk_cell BK174.out 5).trans rfl, hx178_0⟩ (fun hHeld => ?_); refine with_tabW colloquyref14_Show.tab4 colloquyref14_Show.bits4 (fun HT_ HW_ => ?_)
                  generalize w21.drew = w22 at HO177 BK174 HB hx178_0 hHeld ⊢
                  refine pure_ (i := 0) (N := some 27) (v := ?_) (a' := ?_) #[true, false, false, false, false, false, false, false, false, false, false, false] rfl rfl (any_of HT_.out (by kernel_rfl)) (fun _ _ _ h => h) (Or.inl ⟨by rfl, ?_⟩) ?_ ?_
                  rotate_left
                  · intro w'
                    go_simp
                    with_reducible rfl
                  rotate_left
                  · simp only [Act.put, List.setIfInBounds_toArray, List.set_cons_zero, List.set_cons_succ, i64_w, i32_w]
                    rfl
                  refine pure_ (i := 1) (N := some 28) (v := ?_) (a' := ?_) #[true, true, false, false, false, false, false, false, false, false, false, false] rfl rfl (any_of HT_.out (by kernel_rfl)) (fun _ _ _ h => h) (Or.inl ⟨by rfl, ?_⟩) ?_ ?_
                  rotate_left
                  · intro w'
                    go_simp
                    with_reducible rfl
                  rotate_left
                  · simp only [Act.put, List.setIfInBounds_toArray, List.set_cons_zero, List.set_cons_succ, i64_w, i32_w]
                    rfl
                  refine pure_ (i := 7) (N := some 34) (v := ?_) (a' := ?_) #[true, true, false, false, false, false, false, true, false, false, false, false] rfl rfl (any_of HT_.out (by kernel_rfl)) (fun _ _ _ h => h) (Or.inl ⟨by rfl, ?_⟩) ?_ ?_
                  rotate_left
                  · intro w'
                    go_simp
                    with_reducible rfl
                  rotate_left
                  · simp only [Act.put, List.setIfInBounds_toArray, List.set_cons_zero, List.set_cons_succ, i64_w, i32_w]
                    rfl
                  refine take_ (i := 2) (N := some 29) (v := ?_) (a' := ?_) #[true, true, true, false, false, false, false, true, false, false, false, false] rfl rfl (take_ofW HT_.out HW_.out (by kernel_rfl)) (fun _ _ _ h => h) (Or.inl ⟨by rfl, ?_⟩) hHeld ?_ ?_
                  rotate_left
                  · rintro w' ⟨s0, s1, s2, s3, s4, s5, s6⟩
                    go_simp
                    with_reducible rfl
                  rotate_left
                  · simp only [Act.put, List.setIfInBounds_toArray, List.set_cons_zero, List.set_cons_succ, i64_w, i32_w]
                    rfl
                  refine pure_ (i := 3) (N := some 30) (v := ?_) (a' := ?_) #[true, true, true, true, false, false, false, true, false, false, false, false] rfl rfl (any_of HT_.out (by kernel_rfl)) (fun _ _ _ h => h) (Or.inl ⟨by rfl, ?_⟩) ?_ ?_
                  rotate_left
                  · intro w'
                    go_simp
                    with_reducible rfl
                  rotate_left
                  · simp only [Act.put, List.setIfInBounds_toArray, List.set_cons_zero, List.set_cons_succ, i64_w, i32_w]
                    rfl
                  refine take_ (i := 4) (N := some 31) (v := ?_) (a' := ?_) #[true, true, true, true, true, false, false, true, false, false, false, false] rfl rfl (take_ofW HT_.out HW_.out (by kernel_rfl)) (fun _ _ _ h => h) (Or.inl ⟨by rfl, ?_⟩) hHeld ?_ ?_
                  rotate_left
                  · rintro w' ⟨s0, s1, s2, s3, s4, s5, s6⟩
                    go_simp
                    with_reducible rfl
                  rotate_left
                  · simp only [Act.put, List.setIfInBounds_toArray, List.set_cons_zero, List.set_cons_succ, i64_w, i32_w]
                    rfl
                  refine pure_ (i := 5) (N := some 32) (v := ?_) (a' := ?_) #[true, true, true, true, true, true, false, true, false, false, false, false] rfl rfl (any_of HT_.out (by kernel_rfl)) (fun _ _ _ h => h) (Or.inl ⟨by rfl, ?_⟩) ?_ ?_
                  rotate_left
                  · intro w'
                    go_simp
                    with_reducible rfl
                  rotate_left
                  · simp only [Act.put, List.setIfInBounds_toArray, List.set_cons_zero, List.set_cons_succ, i64_w, i32_w]
                    rfl
                  refine pure_ (i := 6) (N := some 33) (v := ?_) (a' := ?_) #[true, true, true, true, true, true, true, true, false, false, false, false] rfl rfl (any_of HT_.out (by kernel_rfl)) (fun _ _ _ h => h) (Or.inl ⟨by rfl, ?_⟩) ?_ ?_
                  rotate_left
                  · intro w'
                    go_simp
                    with_reducible rfl
                  rotate_left
                  · simp only [Act.put, List.setIfInBounds_toArray, List.set_cons_zero, List.set_cons_succ, i64_w, i32_w]
                    rfl
                  refine take_ (i := 8) (N := some 35) (v := ?_) (a' := ?_) #[true, true, true, true, true, true, true, true, true, false, false, false] rfl rfl (take_ofW HT_.out HW_.out (by kernel_rfl)) (fun _ _ _ h => h) (Or.inl ⟨by rfl, ?_⟩) hHeld ?_ ?_
                  rotate_left
                  · rintro w' ⟨s0, s1, s2, s3, s4, s5, s6⟩
                    go_simp
                    with_reducible rfl
                  rotate_left
                  · simp only [Act.put, List.setIfInBounds_toArray, List.set_cons_zero, List.set_cons_succ, i64_w, i32_w]
                    rfl
                  refine one_ (i := 9) (N := some 36) #[true, true, true, true, true, true, true, true, true, true, false, false] rfl rfl (one_of HT_.out (by kernel_rfl)) (by decide) (fun K hK => ?_)
                  refine goes_ Tryd.func34 (by kernel_rfl) rfl #[.int .i64 a0_3] (by rfl) rfl rfl (by (try simp only [List.map_toArray, List.map_cons, List.map_nil]); first | done | rfl | (simp only [List.length_drop, List.length_take]; rfl)) ?_
                  with_reducible refine (colloquyref14_digits.calls kj1 a0_3 t179 _ A17.out).mono ?_
                  rintro e w24 ⟨rfl, hb⟩
                  have HS6_ := (hb.cell (World.block_lt_of_cell? _ _ (hHeld.2.2.2.2.2.2))).trans (hHeld.2.2.2.2.2.2)
                  refine ⟨_, rfl, ?_⟩
                  have n0_ := Aside0.mk (Kd.R_below (by (with_reducible repeat (first | apply Kd.R_alloc | apply Kd.R_drewN | apply Kd.R_drew)); exact HO177.out) hb)
                  have n1_ := Aside0.mk (blk_below (g := gb174) (o := .cells #[.int .i64 a0_0, .int .i64 a0_1, .int .i64 a0_2, .int .i64 a0_3, .int .i64 a0_4, .string a0_5] 24 (0, 0)) (by (with_reducible repeat (first | refine blk_drewN ?_ _ | refine blk_drew ?_ | refine blk_alloc ?_ _)); exact BK174.out) hb)
                  have n2_ := Aside0.mk (below_step (by repeat (first | (with_reducible first | exact HB.out | apply below_alloc | apply pw_below_drewN | apply below_drew1 | refine below_set ?_ GE174.out) | exact HB.out)) hb)
                  clear HO177
                  clear BK174
                  clear HB
                  have HO177 := n0_
                  have BK174 := n1_
                  have HB := n2_
                  clear n0_ n1_ n2_
                  (try clear hb)
                  (try clear hb2)
                  (try clear hk)
                  (try clear hi)
                  refine hK.out _ _ ⟨(blk_cell BK174.out 0).trans rfl, (blk_cell BK174.out 1).trans rfl, (blk_cell BK174.out 2).trans rfl, (blk_cell BK174.out 3).trans rfl, (blk_cell BK174.out 4).trans rfl, (blk_cell BK174.out 5).trans rfl, HS6_⟩ (fun hHeld => ?_)
                  clear hK K
                  refine norm_ (a' := ?_) ?_ ?_
                  rotate_left
                  · show Act.put _ (some 36) _ = _
                    simp only [Act.put, List.setIfInBounds_toArray, List.set_cons_zero, List.set_cons_succ, i64_w, i32_w]
                    rfl
                  refine pure_ (i := 10) (N := some 37) (v := ?_) (a' := ?_) #[true, true, true, true, true, true, true, true, true, true, true, false] rfl rfl (any_of HT_.out (by kernel_rfl)) (fun _ _ _ h => h) (Or.inl ⟨by rfl, ?_⟩) ?_ ?_
                  rotate_left
                  · intro w'
                    go_simp
                    with_reducible rfl
                  rotate_left
                  · simp only [Act.put, List.setIfInBounds_toArray, List.set_cons_zero, List.set_cons_succ, i64_w, i32_w]
                    rfl
                  refine pure_ (i := 11) (N := some 5) (v := ?_) (a' := ?_) #[true, true, true, true, true, true, true, true, true, true, true, true] rfl rfl (any_of HT_.out (by kernel_rfl)) (fun _ _ _ h => h) (Or.inl ⟨by rfl, ?_⟩) ?_ ?_
                  rotate_left
                  · intro w'
                    go_simp
                    with_reducible rfl
                  rotate_left
                  · simp only [Act.put, List.setIfInBounds_toArray, List.set_cons_zero, List.set_cons_succ, i64_w, i32_w]
                    rfl
                  refine done_ (done_of HT_.out (by kernel_rfl)) ?_
                  have hcz25_0 : w24.cell? ⟨gb174, 0, none⟩ = some (.int .i64 a0_0) := (blk_cell BK174.out 0).trans rfl
                  have hcz25_1 : w24.cell? ⟨gb174, 1, none⟩ = some (.int .i64 a0_1) := (blk_cell BK174.out 1).trans rfl
                  have hcz25_2 : w24.cell? ⟨gb174, 2, none⟩ = some (.int .i64 a0_2) := (blk_cell BK174.out 2).trans rfl
                  have hcz25_3 : w24.cell? ⟨gb174, 3, none⟩ = some (.int .i64 a0_3) := (blk_cell BK174.out 3).trans rfl
                  have hcz25_4 : w24.cell? ⟨gb174, 4, none⟩ = some (.int .i64 a0_4) := (blk_cell BK174.out 4).trans rfl
                  have hcz25_5 : w24.cell? ⟨gb174, 5, none⟩ = some (.string a0_5) := (blk_cell BK174.out 5).trans rfl
                  have hfz25_0 := blk_frozen BK174.out 0
                  have hfz25_1 := blk_frozen BK174.out 1
                  have hfz25_2 := blk_frozen BK174.out 2
                  have hfz25_3 := blk_frozen BK174.out 3
                  have hfz25_4 := blk_frozen BK174.out 4
                  have hfz25_5 := blk_frozen BK174.out 5
                  go_upto_if 41 with (first | ((with_reducible refine gate_callee (f := 28) rfl ?_); refine goesL_ (some 40) rfl rfl Tryd.func28 (by kernel_rfl) rfl #[.int .i64 a0_2] rfl (by (try simp only [List.map_toArray, List.map_cons, List.map_nil]); first | done | rfl | (simp only [List.length_drop, List.length_take]; rfl)) ?_; (with_reducible refine (colloquyref14_numbered.calls a0_2 t180 _ A19.out).mono ?_); rintro e w' ⟨rfl, ⟨nd, rfl⟩⟩; refine ⟨_, rfl, ?_⟩))
                  (try simp only [Act.put, List.setIfInBounds_toArray, List.set_cons_zero, List.set_cons_succ])
                  go_cut [5] (fun v5 wc => ∃ (kq : Nat) (x5_19 : ByteArray), v5 = .string x5_19 ∧ Aside0 (colloquyref14_Show.j1 kq x5_19 a0_0 a0_1 a0_2 a0_3 a0_4 a0_5 = some (r1, r2)) ∧ Aside0 (kq ≤ kj1) ∧ Aside0 (wc.heap[gb174]? = some (.cells #[.int .i64 a0_0, .int .i64 a0_1, .int .i64 a0_2, .int .i64 a0_3, .int .i64 a0_4, .string a0_5] 24 (0, 0))) ∧ Aside0 (Below w.heap.size w wc))
                  case first =>
                    have H := HC20.out
                    clear HC20
                    by_cases c26 : t180 = true
                    · subst c26
                      have H1 : (if a0_4 < 1 then (some ((⟨#[]⟩ : ByteArray), 1)) else (if a0_4 > 1073741824 then (some ((⟨#[]⟩ : ByteArray), 1)) else (if ((((⟨#[47]⟩ : ByteArray) ++ (rdOf ByteArray.empty t175 a0_2)) ++ (⟨#[32]⟩ : ByteArray)) ++ t179).size + 1 ≤ 9223372036854775807 then ((colloquyref14_digits.f kj1 a0_4).bind fun t181 => (if (((((⟨#[47]⟩ : ByteArray) ++ (rdOf ByteArray.empty t175 a0_2)) ++ (⟨#[32]⟩ : ByteArray)) ++ t179) ++ (⟨#[32]⟩ : ByteArray)).size + t181.size ≤ 9223372036854775807 then (colloquyref14_Show.j1 kj1 ((((((⟨#[47]⟩ : ByteArray) ++ (rdOf ByteArray.empty t175 a0_2)) ++ (⟨#[32]⟩ : ByteArray)) ++ t179) ++ (⟨#[32]⟩ : ByteArray)) ++ t181) a0_0 a0_1 a0_2 a0_3 a0_4 a0_5) else (none))) else (none)))) = some (r1, r2) := by rw [if_pos rfl] at H; exact H
                      clear H
                      have H := H1
                      clear H1
                      by_cases c27 : a0_4 < 1
                      · rw [if_pos c27] at H
                        have c27b0 : decide (a0_4 < 1) = true := decide_eq_true c27
                        clear c27
                        (first | rw [c27b0] | (simp only [i64_w, i32_w]; rw [c27b0]) | skip)
                        simp only [Option.some.injEq, Prod.mk.injEq] at H
                        obtain ⟨rfl, rfl⟩ := H
                        have hcz28_0 : w24.cell? ⟨gb174, 0, none⟩ = some (.int .i64 a0_0) := (blk_cell BK174.out 0).trans rfl
                        have hcz28_1 : w24.cell? ⟨gb174, 1, none⟩ = some (.int .i64 a0_1) := (blk_cell BK174.out 1).trans rfl
                        have hcz28_2 : w24.cell? ⟨gb174, 2, none⟩ = some (.int .i64 a0_2) := (blk_cell BK174.out 2).trans rfl
                        have hcz28_3 : w24.cell? ⟨gb174, 3, none⟩ = some (.int .i64 a0_3) := (blk_cell BK174.out 3).trans rfl
                        have hcz28_4 : w24.cell? ⟨gb174, 4, none⟩ = some (.int .i64 a0_4) := (blk_cell BK174.out 4).trans rfl
                        have hcz28_5 : w24.cell? ⟨gb174, 5, none⟩ = some (.string a0_5) := (blk_cell BK174.out 5).trans rfl
                        have hfz28_0 := blk_frozen BK174.out 0
                        have hfz28_1 := blk_frozen BK174.out 1
                        have hfz28_2 := blk_frozen BK174.out 2
                        have hfz28_3 := blk_frozen BK174.out 3
                        have hfz28_4 := blk_frozen BK174.out 4
                        have hfz28_5 := blk_frozen BK174.out 5
                        go_wp2
                        go_ret2
                        exact ⟨by first | rfl | (simp [errW_none, errW_some] <;> rfl) | (simp [*, errW_none, errW_some] <;> rfl), by repeat (first | (with_reducible first | exact HB.out | apply below_alloc | apply pw_below_drewN | apply below_drew1 | refine below_set ?_ GE174.out) | exact HB.out)⟩
                      · rw [if_neg c27] at H
                        have c27b0 : decide (a0_4 < 1) = false := decide_eq_false c27
                        clear c27
                        (first | rw [c27b0] | (simp only [i64_w, i32_w]; rw [c27b0]) | skip)
                        by_cases c29 : a0_4 > 1073741824
                        · rw [if_pos c29] at H
                          have c29b0 : decide (1073741824 < a0_4) = true := decide_eq_true c29
                          clear c29
                          simp only [Option.some.injEq, Prod.mk.injEq] at H
                          obtain ⟨rfl, rfl⟩ := H
                          have hcz30_0 : w24.cell? ⟨gb174, 0, none⟩ = some (.int .i64 a0_0) := (blk_cell BK174.out 0).trans rfl
                          have hcz30_1 : w24.cell? ⟨gb174, 1, none⟩ = some (.int .i64 a0_1) := (blk_cell BK174.out 1).trans rfl
                          have hcz30_2 : w24.cell? ⟨gb174, 2, none⟩ = some (.int .i64 a0_2) := (blk_cell BK174.out 2).trans rfl
                          have hcz30_3 : w24.cell? ⟨gb174, 3, none⟩ = some (.int .i64 a0_3) := (blk_cell BK174.out 3).trans rfl
                          have hcz30_4 : w24.cell? ⟨gb174, 4, none⟩ = some (.int .i64 a0_4) := (blk_cell BK174.out 4).trans rfl
                          have hcz30_5 : w24.cell? ⟨gb174, 5, none⟩ = some (.string a0_5) := (blk_cell BK174.out 5).trans rfl
                          have hfz30_0 := blk_frozen BK174.out 0
                          have hfz30_1 := blk_frozen BK174.out 1
                          have hfz30_2 := blk_frozen BK174.out 2
                          have hfz30_3 := blk_frozen BK174.out 3
                          have hfz30_4 := blk_frozen BK174.out 4
                          have hfz30_5 := blk_frozen BK174.out 5
                          go_wp2
                          go_ret2
                          exact ⟨by first | rfl | (simp [errW_none, errW_some] <;> rfl) | (simp [*, errW_none, errW_some] <;> rfl), by repeat (first | (with_reducible first | exact HB.out | apply below_alloc | apply pw_below_drewN | apply below_drew1 | refine below_set ?_ GE174.out) | exact HB.out)⟩
                        · rw [if_neg c29] at H
                          have c29b0 : decide (1073741824 < a0_4) = false := decide_eq_false c29
                          clear c29
                          by_cases c31 : ((((⟨#[47]⟩ : ByteArray) ++ (rdOf ByteArray.empty t175 a0_2)) ++ (⟨#[32]⟩ : ByteArray)) ++ t179).size + 1 ≤ 9223372036854775807
                          · rw [if_pos c31] at H
                            have c31b0 := eq_true c31
                            have c31b1 : decide (((((⟨#[47]⟩ : ByteArray) ++ (rdOf ByteArray.empty t175 a0_2)) ++ (⟨#[32]⟩ : ByteArray)) ++ t179).size + 1 ≤ 9223372036854775807) = true := decide_eq_true c31
                            try have c31b2 : (9223372036854775807 < ((((⟨#[47]⟩ : ByteArray) ++ (rdOf ByteArray.empty t175 a0_2)) ++ (⟨#[32]⟩ : ByteArray)) ++ t179).size + 1) = False := eq_false (Nat.not_lt.2 c31)
                            replace H := Option.bind_eq_some_iff.mp H
                            obtain ⟨t181, A320, H⟩ := H
                            replace H : (if (((((⟨#[47]⟩ : ByteArray) ++ (rdOf ByteArray.empty t175 a0_2)) ++ (⟨#[32]⟩ : ByteArray)) ++ t179) ++ (⟨#[32]⟩ : ByteArray)).size + t181.size ≤ 9223372036854775807 then (colloquyref14_Show.j1 kj1 ((((((⟨#[47]⟩ : ByteArray) ++ (rdOf ByteArray.empty t175 a0_2)) ++ (⟨#[32]⟩ : ByteArray)) ++ t179) ++ (⟨#[32]⟩ : ByteArray)) ++ t181) a0_0 a0_1 a0_2 a0_3 a0_4 a0_5) else (none)) = some (r1, r2) := H
                            have A32 := Aside0.mk A320
                            clear A320
                            by_cases c33 : (((((⟨#[47]⟩ : ByteArray) ++ (rdOf ByteArray.empty t175 a0_2)) ++ (⟨#[32]⟩ : ByteArray)) ++ t179) ++ (⟨#[32]⟩ : ByteArray)).size + t181.size ≤ 9223372036854775807
                            · rw [if_pos c33] at H
                              have c33b0 := eq_true c33
                              have c33b1 : decide ((((((⟨#[47]⟩ : ByteArray) ++ (rdOf ByteArray.empty t175 a0_2)) ++ (⟨#[32]⟩ : ByteArray)) ++ t179) ++ (⟨#[32]⟩ : ByteArray)).size + t181.size ≤ 9223372036854775807) = true := decide_eq_true c33
                              try have c33b2 : (9223372036854775807 < (((((⟨#[47]⟩ : ByteArray) ++ (rdOf ByteArray.empty t175 a0_2)) ++ (⟨#[32]⟩ : ByteArray)) ++ t179) ++ (⟨#[32]⟩ : ByteArray)).size + t181.size) = False := eq_false (Nat.not_lt.2 c33)
                              have H' := Aside0.mk H
                              clear H
                              have z1_ : (⟨#[47]⟩ : ByteArray).size = 1 := rfl
                              have z2_ : (⟨#[32]⟩ : ByteArray).size = 1 := rfl
                              have c31x : (9223372036854775807 < 1 + (rdOf ByteArray.empty t175 a0_2).size + 1 + t179.size + 1) = False := eq_false (by have h_ := c31; rw [ByteArray.size_append, ByteArray.size_append, ByteArray.size_append, z1_, z2_] at h_; omega)
                              have c33x : (9223372036854775807 < 1 + (rdOf ByteArray.empty t175 a0_2).size + 1 + t179.size + 1 + t181.size) = False := eq_false (by have h_ := c33; rw [ByteArray.size_append, ByteArray.size_append, ByteArray.size_append, ByteArray.size_append, z1_, z2_] at h_; omega)
                              clear z1_ z2_
                              have hcz34_0 : w24.cell? ⟨gb174, 0, none⟩ = some (.int .i64 a0_0) := (blk_cell BK174.out 0).trans rfl
                              have hcz34_1 : w24.cell? ⟨gb174, 1, none⟩ = some (.int .i64 a0_1) := (blk_cell BK174.out 1).trans rfl
                              have hcz34_2 : w24.cell? ⟨gb174, 2, none⟩ = some (.int .i64 a0_2) := (blk_cell BK174.out 2).trans rfl
                              have hcz34_3 : w24.cell? ⟨gb174, 3, none⟩ = some (.int .i64 a0_3) := (blk_cell BK174.out 3).trans rfl
                              have hcz34_4 : w24.cell? ⟨gb174, 4, none⟩ = some (.int .i64 a0_4) := (blk_cell BK174.out 4).trans rfl
                              have hcz34_5 : w24.cell? ⟨gb174, 5, none⟩ = some (.string a0_5) := (blk_cell BK174.out 5).trans rfl
                              have hfz34_0 := blk_frozen BK174.out 0
                              have hfz34_1 := blk_frozen BK174.out 1
                              have hfz34_2 := blk_frozen BK174.out 2
                              have hfz34_3 := blk_frozen BK174.out 3
                              have hfz34_4 := blk_frozen BK174.out 4
                              have hfz34_5 := blk_frozen BK174.out 5
                              go_wp2_with (first | ((with_reducible refine gate_callee (f := 34) rfl ?_); refine goesL_ (some 54) rfl rfl Tryd.func34 (by kernel_rfl) rfl #[.int .i64 a0_4] rfl (by (try simp only [List.map_toArray, List.map_cons, List.map_nil]); first | done | rfl | (simp only [List.length_drop, List.length_take]; rfl)) ?_; (with_reducible refine (colloquyref14_digits.calls kj1 a0_4 t181 _ A32.out).mono ?_); rintro e w35 ⟨rfl, hb⟩; refine ⟨_, rfl, ?_⟩; have n0_ := Aside0.mk (Kd.R_below (by (with_reducible repeat (first | apply Kd.R_alloc | apply Kd.R_drewN | apply Kd.R_drew)); exact HO177.out) hb); have n1_ := Aside0.mk (blk_below (g := gb174) (o := .cells #[.int .i64 a0_0, .int .i64 a0_1, .int .i64 a0_2, .int .i64 a0_3, .int .i64 a0_4, .string a0_5] 24 (0, 0)) (by (with_reducible repeat (first | refine blk_drewN ?_ _ | refine blk_drew ?_ | refine blk_alloc ?_ _)); exact BK174.out) hb); have n2_ := Aside0.mk (below_step (by repeat (first | (with_reducible first | exact HB.out | apply below_alloc | apply pw_below_drewN | apply below_drew1 | refine below_set ?_ GE174.out) | exact HB.out)) hb); clear HO177; clear BK174; clear HB; have HO177 := n0_; have BK174 := n1_; have HB := n2_; clear n0_ n1_ n2_; (try clear hb); (try clear hb2); (try clear hk); (try clear hi)))
                              go_meet
                              case rel => exact ⟨_, ((((((⟨#[47]⟩ : ByteArray) ++ (rdOf ByteArray.empty t175 a0_2)) ++ (⟨#[32]⟩ : ByteArray)) ++ t179) ++ (⟨#[32]⟩ : ByteArray)) ++ t181), (by first | rfl | (simp; done) | (simp [*]; done)), H', ⟨by have := HJ1.out; first | omega | exact Nat.le_refl _⟩, ⟨by (with_reducible repeat (first | refine blk_drewN ?_ _ | refine blk_drew ?_ | refine blk_alloc ?_ _)); exact BK174.out⟩, ⟨by repeat (first | (with_reducible first | exact HB.out | apply below_alloc | apply pw_below_drewN | apply below_drew1 | refine below_set ?_ GE174.out) | exact HB.out)⟩⟩
                            · rw [if_neg c33] at H
                              exact absurd H (by simp)
                          · rw [if_neg c31] at H
                            exact absurd H (by simp)
                    · replace c26 := Bool.eq_false_iff.mpr c26
                      subst c26
                      have H1 : (colloquyref14_Show.j1 kj1 ((((⟨#[47]⟩ : ByteArray) ++ (rdOf ByteArray.empty t175 a0_2)) ++ (⟨#[32]⟩ : ByteArray)) ++ t179) a0_0 a0_1 a0_2 a0_3 a0_4 a0_5) = some (r1, r2) := by rw [if_neg (show ¬ (false = true) by decide)] at H; exact H
                      clear H
                      have H := H1
                      clear H1
                      have H' := Aside0.mk H
                      clear H
                      go_wp2
                      go_meet
                      case rel => exact ⟨_, ((((⟨#[47]⟩ : ByteArray) ++ (rdOf ByteArray.empty t175 a0_2)) ++ (⟨#[32]⟩ : ByteArray)) ++ t179), (by first | rfl | (simp; done) | (simp [*]; done)), H', ⟨by have := HJ1.out; first | omega | exact Nat.le_refl _⟩, ⟨by (with_reducible repeat (first | refine blk_drewN ?_ _ | refine blk_drew ?_ | refine blk_alloc ?_ _)); exact BK174.out⟩, ⟨by repeat (first | (with_reducible first | exact HB.out | apply below_alloc | apply pw_below_drewN | apply below_drew1 | refine below_set ?_ GE174.out) | exact HB.out)⟩⟩
                  case rest =>
                    clear HC20
                    try clear c1
                    try clear p1
                    try clear q1
                    try clear hx1
                    try clear c2
                    try clear p2
                    try clear c3
                    try clear c4
                    try clear c4b0
                    try clear c6
                    try clear c6b0
                    try clear c8
                    try clear c8b0
                    try clear c11
                    try clear c13
                    try clear c13b0
                    try clear c14
                    try clear c14b0
                    try clear c15
                    try clear c15b0
                    try clear c15b1
                    try clear c15b2
                    try clear c16
                    try clear c16b0
                    try clear c16b1
                    try clear c16b2
                    try clear c17
                    try clear p17
                    try clear q17
                    try clear hx17
                    try clear c18
                    try clear c18b0
                    try clear c18b1
                    try clear c18b2
                    try clear c26
                    try clear c27
                    try clear c27b0
                    try clear c28
                    try clear c29
                    try clear c29b0
                    try clear c31
                    try clear c31b0
                    try clear c31b1
                    try clear c31b2
                    try clear c33
                    try clear c33b0
                    try clear c33b1
                    try clear c33b2
                    try clear c34
                    try clear hcz10_0
                    try clear hcz10_1
                    try clear hcz10_2
                    try clear hcz10_3
                    try clear hcz10_4
                    try clear hcz10_5
                    try clear hcz25_0
                    try clear hcz25_1
                    try clear hcz25_2
                    try clear hcz25_3
                    try clear hcz25_4
                    try clear hcz25_5
                    try clear hcz28_0
                    try clear hcz28_1
                    try clear hcz28_2
                    try clear hcz28_3
                    try clear hcz28_4
                    try clear hcz28_5
                    try clear hcz30_0
                    try clear hcz30_1
                    try clear hcz30_2
                    try clear hcz30_3
                    try clear hcz30_4
                    try clear hcz30_5
                    try clear hcz34_0
                    try clear hcz34_1
                    try clear hcz34_2
                    try clear hcz34_3
                    try clear hcz34_4
                    try clear hcz34_5
                    try clear hcz5_0
                    try clear hcz5_1
                    try clear hcz5_2
                    try clear hcz5_3
                    try clear hcz5_4
                    try clear hcz5_5
                    try clear hcz7_0
                    try clear hcz7_1
                    try clear hcz7_2
                    try clear hcz7_3
                    try clear hcz7_4
                    try clear hcz7_5
                    try clear hcz9_0
                    try clear hcz9_1
                    try clear hcz9_2
                    try clear hcz9_3
                    try clear hcz9_4
                    try clear hcz9_5
                    try clear hfz10_0
                    try clear hfz10_1
                    try clear hfz10_2
                    try clear hfz10_3
                    try clear hfz10_4
                    try clear hfz10_5
                    try clear hfz25_0
                    try clear hfz25_1
                    try clear hfz25_2
                    try clear hfz25_3
                    try clear hfz25_4
                    try clear hfz25_5
                    try clear hfz28_0
                    try clear hfz28_1
                    try clear hfz28_2
                    try clear hfz28_3
                    try clear hfz28_4
                    try clear hfz28_5
                    try clear hfz30_0
                    try clear hfz30_1
                    try clear hfz30_2
                    try clear hfz30_3
                    try clear hfz30_4
                    try clear hfz30_5
                    try clear hfz34_0
                    try clear hfz34_1
                    try clear hfz34_2
                    try clear hfz34_3
                    try clear hfz34_4
                    try clear hfz34_5
                    try clear hfz5_0
                    try clear hfz5_1
                    try clear hfz5_2
                    try clear hfz5_3
                    try clear hfz5_4
                    try clear hfz5_5
                    try clear hfz7_0
                    try clear hfz7_1
                    try clear hfz7_2
                    try clear hfz7_3
                    try clear hfz7_4
                    try clear hfz7_5
                    try clear hfz9_0
                    try clear hfz9_1
                    try clear hfz9_2
                    try clear hfz9_3
                    try clear hfz9_4
                    try clear hfz9_5
                    try clear hx178_0
                    try clear p178
                    try clear p2
                    try clear q178
                    obtain ⟨kq, x5_19, rfl, HA, HJ19, BK174, HB⟩ := hcut
                    cases kq with
                    | zero => exact absurd HA.out (by simp [colloquyref14_Show.j1])
                    | succ kj19 =>
                      have H := HA.out
                      clear HA
                      simp only [colloquyref14_Show.j1] at H
                      replace H := Option.bind_eq_some_iff.mp H
                      obtain ⟨t182, A360, H⟩ := H
                      replace H : ((colloquyref14_May.f kj19 a0_5).bind fun t183 => (if t182 = true then (colloquyref14_Show.j2 kj19 x5_19 t182 (!t183) a0_0 a0_1 a0_2 a0_3 a0_4 a0_5) else (colloquyref14_Show.j2 kj19 x5_19 t182 false a0_0 a0_1 a0_2 a0_3 a0_4 a0_5))) = some (r1, r2) := H
                      have A36 := Aside0.mk A360
                      clear A360
                      replace H := Option.bind_eq_some_iff.mp H
                      obtain ⟨t183, A370, H⟩ := H
                      replace H : (if t182 = true then (colloquyref14_Show.j2 kj19 x5_19 t182 (!t183) a0_0 a0_1 a0_2 a0_3 a0_4 a0_5) else (colloquyref14_Show.j2 kj19 x5_19 t182 false a0_0 a0_1 a0_2 a0_3 a0_4 a0_5)) = some (r1, r2) := H
                      have A37 := Aside0.mk A370
                      clear A370
                      have HC38 := Aside0.mk H
                      clear H
                      have hcz39_0 : wc.cell? ⟨gb174, 0, none⟩ = some (.int .i64 a0_0) := (blk_cell BK174.out 0).trans rfl
                      have hcz39_1 : wc.cell? ⟨gb174, 1, none⟩ = some (.int .i64 a0_1) := (blk_cell BK174.out 1).trans rfl
                      have hcz39_2 : wc.cell? ⟨gb174, 2, none⟩ = some (.int .i64 a0_2) := (blk_cell BK174.out 2).trans rfl
                      have hcz39_3 : wc.cell? ⟨gb174, 3, none⟩ = some (.int .i64 a0_3) := (blk_cell BK174.out 3).trans rfl
                      have hcz39_4 : wc.cell? ⟨gb174, 4, none⟩ = some (.int .i64 a0_4) := (blk_cell BK174.out 4).trans rfl
                      have hcz39_5 : wc.cell? ⟨gb174, 5, none⟩ = some (.string a0_5) := (blk_cell BK174.out 5).trans rfl
                      have hfz39_0 := blk_frozen BK174.out 0
                      have hfz39_1 := blk_frozen BK174.out 1
                      have hfz39_2 := blk_frozen BK174.out 2
                      have hfz39_3 := blk_frozen BK174.out 3
                      have hfz39_4 := blk_frozen BK174.out 4
                      have hfz39_5 := blk_frozen BK174.out 5
                      go_upto_region 12 with (first | ((with_reducible refine gate_callee (f := 29) rfl ?_); refine goesL_ (some 58) rfl rfl Tryd.func29 (by kernel_rfl) rfl #[.int .i64 a0_2] rfl (by (try simp only [List.map_toArray, List.map_cons, List.map_nil]); first | done | rfl | (simp only [List.length_drop, List.length_take]; rfl)) ?_; (with_reducible refine (colloquyref14_worded.calls a0_2 t182 _ A36.out).mono ?_); rintro e w' ⟨rfl, ⟨nd, rfl⟩⟩; refine ⟨_, rfl, ?_⟩) | ((with_reducible refine gate_callee (f := 13) rfl ?_); refine goesL_ (some 61) rfl rfl Tryd.func13 (by kernel_rfl) rfl #[.string a0_5] rfl (by (try simp only [List.map_toArray, List.map_cons, List.map_nil]); first | done | rfl | (simp only [List.length_drop, List.length_take]; rfl)) ?_; (with_reducible refine (colloquyref14_May.calls kj19 a0_5 t183 _ A37.out).mono ?_); rintro e w' ⟨rfl, ⟨nd, rfl⟩⟩; refine ⟨_, rfl, ?_⟩))
                      (try simp only [Act.put, List.setIfInBounds_toArray, List.set_cons_zero, List.set_cons_succ])
                      go_cut [66] (fun v66 wc => ∃ (kq : Nat) (x66_37 : Bool), v66 = .bool x66_37 ∧ Aside0 (colloquyref14_Show.j2 kq x5_19 t182 x66_37 a0_0 a0_1 a0_2 a0_3 a0_4 a0_5 = some (r1, r2)) ∧ Aside0 (kq ≤ kj19) ∧ Aside0 (wc.heap[gb174]? = some (.cells #[.int .i64 a0_0, .int .i64 a0_1, .int .i64 a0_2, .int .i64 a0_3, .int .i64 a0_4, .string a0_5] 24 (0, 0))) ∧ Aside0 (Below w.heap.size w wc))
                      case first =>
                        have H := HC38.out
                        clear HC38
                        by_cases c40 : t182 = true
                        · subst c40
                          have H1 : (colloquyref14_Show.j2 kj19 x5_19 true (!t183) a0_0 a0_1 a0_2 a0_3 a0_4 a0_5) = some (r1, r2) := by rw [if_pos rfl] at H; exact H
                          clear H
                          have H := H1
                          clear H1
                          have H' := Aside0.mk H
                          clear H
                          go_wp2
                          go_meet
                          case rel => exact ⟨_, (!t183), (by first | rfl | (simp; done) | (simp [*]; done)), H', ⟨by have := HJ1.out; have := HJ19.out; first | omega | exact Nat.le_refl _⟩, ⟨by (with_reducible repeat (first | refine blk_drewN ?_ _ | refine blk_drew ?_ | refine blk_alloc ?_ _)); exact BK174.out⟩, ⟨by repeat (first | (with_reducible first | exact HB.out | apply below_alloc | apply pw_below_drewN | apply below_drew1 | refine below_set ?_ GE174.out) | exact HB.out)⟩⟩
                        · replace c40 := Bool.eq_false_iff.mpr c40
                          subst c40
                          have H1 : (colloquyref14_Show.j2 kj19 x5_19 false false a0_0 a0_1 a0_2 a0_3 a0_4 a0_5) = some (r1, r2) := by rw [if_neg (show ¬ (false = true) by decide)] at H; exact H
                          clear H
                          have H := H1
                          clear H1
                          have H' := Aside0.mk H
                          clear H
                          go_wp2
                          go_meet
                          case rel => exact ⟨_, (false), (by first | rfl | (simp; done) | (simp [*]; done)), H', ⟨by have := HJ1.out; have := HJ19.out; first | omega | exact Nat.le_refl _⟩, ⟨by (with_reducible repeat (first | refine blk_drewN ?_ _ | refine blk_drew ?_ | refine blk_alloc ?_ _)); exact BK174.out⟩, ⟨by repeat (first | (with_reducible first | exact HB.out | apply below_alloc | apply pw_below_drewN | apply below_drew1 | refine below_set ?_ GE174.out) | exact HB.out)⟩⟩
                      case rest =>
                        clear HC38
                        try clear c1
                        try clear p1
                        try clear q1
                        try clear hx1
                        try clear c2
                        try clear p2
                        try clear c3
                        try clear c4
                        try clear c4b0
                        try clear c6
                        try clear c6b0
                        try clear c8
                        try clear c8b0
                        try clear c11
                        try clear c13
                        try clear c13b0
                        try clear c14
                        try clear c14b0
                        try clear c15
                        try clear c15b0
                        try clear c15b1
                        try clear c15b2
                        try clear c16
                        try clear c16b0
                        try clear c16b1
                        try clear c16b2
                        try clear c17
                        try clear p17
                        try clear q17
                        try clear hx17
                        try clear c18
                        try clear c18b0
                        try clear c18b1
                        try clear c18b2
                        try clear c26
                        try clear c27
                        try clear c27b0
                        try clear c28
                        try clear c29
                        try clear c29b0
                        try clear c31
                        try clear c31b0
                        try clear c31b1
                        try clear c31b2
                        try clear c33
                        try clear c33b0
                        try clear c33b1
                        try clear c33b2
                        try clear c34
                        try clear c40
                        try clear hcz10_0
                        try clear hcz10_1
                        try clear hcz10_2
                        try clear hcz10_3
                        try clear hcz10_4
                        try clear hcz10_5
                        try clear hcz25_0
                        try clear hcz25_1
                        try clear hcz25_2
                        try clear hcz25_3
                        try clear hcz25_4
                        try clear hcz25_5
                        try clear hcz28_0
                        try clear hcz28_1
                        try clear hcz28_2
                        try clear hcz28_3
                        try clear hcz28_4
                        try clear hcz28_5
                        try clear hcz30_0
                        try clear hcz30_1
                        try clear hcz30_2
                        try clear hcz30_3
                        try clear hcz30_4
                        try clear hcz30_5
                        try clear hcz34_0
                        try clear hcz34_1
                        try clear hcz34_2
                        try clear hcz34_3
                        try clear hcz34_4
                        try clear hcz34_5
                        try clear hcz39_0
                        try clear hcz39_1
                        try clear hcz39_2
                        try clear hcz39_3
                        try clear hcz39_4
                        try clear hcz39_5
                        try clear hcz5_0
                        try clear hcz5_1
                        try clear hcz5_2
                        try clear hcz5_3
                        try clear hcz5_4
                        try clear hcz5_5
                        try clear hcz7_0
                        try clear hcz7_1
                        try clear hcz7_2
                        try clear hcz7_3
                        try clear hcz7_4
                        try clear hcz7_5
                        try clear hcz9_0
                        try clear hcz9_1
                        try clear hcz9_2
                        try clear hcz9_3
                        try clear hcz9_4
                        try clear hcz9_5
                        try clear hfz10_0
                        try clear hfz10_1
                        try clear hfz10_2
                        try clear hfz10_3
                        try clear hfz10_4
                        try clear hfz10_5
                        try clear hfz25_0
                        try clear hfz25_1
                        try clear hfz25_2
                        try clear hfz25_3
                        try clear hfz25_4
                        try clear hfz25_5
                        try clear hfz28_0
                        try clear hfz28_1
                        try clear hfz28_2
                        try clear hfz28_3
                        try clear hfz28_4
                        try clear hfz28_5
                        try clear hfz30_0
                        try clear hfz30_1
                        try clear hfz30_2
                        try clear hfz30_3
                        try clear hfz30_4
                        try clear hfz30_5
                        try clear hfz34_0
                        try clear hfz34_1
                        try clear hfz34_2
                        try clear hfz34_3
                        try clear hfz34_4
                        try clear hfz34_5
                        try clear hfz39_0
                        try clear hfz39_1
                        try clear hfz39_2
                        try clear hfz39_3
                        try clear hfz39_4
                        try clear hfz39_5
                        try clear hfz5_0
                        try clear hfz5_1
                        try clear hfz5_2
                        try clear hfz5_3
                        try clear hfz5_4
                        try clear hfz5_5
                        try clear hfz7_0
                        try clear hfz7_1
                        try clear hfz7_2
                        try clear hfz7_3
                        try clear hfz7_4
                        try clear hfz7_5
                        try clear hfz9_0
                        try clear hfz9_1
                        try clear hfz9_2
                        try clear hfz9_3
                        try clear hfz9_4
                        try clear hfz9_5
                        try clear hx178_0
                        try clear p1
                        try clear p17
                        try clear p178
                        try clear p2
                        try clear q1
                        try clear q17
                        try clear q178
                        obtain ⟨kq, x66_37, rfl, HA, HJ37, BK174, HB⟩ := hcut
                        cases kq with
                        | zero => exact absurd HA.out (by simp [colloquyref14_Show.j2])
                        | succ kj37 =>
                          have H := HA.out
                          clear HA
                          simp only [colloquyref14_Show.j2] at H
                          by_cases c41 : x66_37 = true
                          · subst c41
                            have H1 : (some ((⟨#[]⟩ : ByteArray), 1)) = some (r1, r2) := by rw [if_pos rfl] at H; exact H
                            clear H
                            have H := H1
                            clear H1
                            simp only [Option.some.injEq, Prod.mk.injEq] at H
                            obtain ⟨rfl, rfl⟩ := H
                            go_wp2
                            go_ret2
                            exact ⟨by first | rfl | (simp [errW_none, errW_some] <;> rfl) | (simp [*, errW_none, errW_some] <;> rfl), by repeat (first | (with_reducible first | exact HB.out | apply below_alloc | apply pw_below_drewN | apply below_drew1 | refine below_set ?_ GE174.out) | exact HB.out)⟩
                          · replace c41 := Bool.eq_false_iff.mpr c41
                            subst c41
                            have H1 : (if t182 = true then (if x5_19.size + 1 ≤ 9223372036854775807 then (if (x5_19 ++ (⟨#[32]⟩ : ByteArray)).size + a0_5.size ≤ 9223372036854775807 then (some ((x5_19 ++ (⟨#[32]⟩ : ByteArray)) ++ a0_5, 0)) else (none)) else (none)) else (some (x5_19, 0))) = some (r1, r2) := by rw [if_neg (show ¬ (false = true) by decide)] at H; exact H
                            clear H
                            have H := H1
                            clear H1
                            by_cases c42 : t182 = true
                            · subst c42
                              have H1 : (if x5_19.size + 1 ≤ 9223372036854775807 then (if (x5_19 ++ (⟨#[32]⟩ : ByteArray)).size + a0_5.size ≤ 9223372036854775807 then (some ((x5_19 ++ (⟨#[32]⟩ : ByteArray)) ++ a0_5, 0)) else (none)) else (none)) = some (r1, r2) := by rw [if_pos rfl] at H; exact H
                              clear H
                              have H := H1
                              clear H1
                              by_cases c43 : x5_19.size + 1 ≤ 9223372036854775807
                              · rw [if_pos c43] at H
                                have c43b0 := eq_true c43
                                have c43b1 : decide (x5_19.size + 1 ≤ 9223372036854775807) = true := decide_eq_true c43
                                try have c43b2 : (9223372036854775807 < x5_19.size + 1) = False := eq_false (Nat.not_lt.2 c43)
                                by_cases c44 : (x5_19 ++ (⟨#[32]⟩ : ByteArray)).size + a0_5.size ≤ 9223372036854775807
                                · rw [if_pos c44] at H
                                  have c44b0 := eq_true c44
                                  have c44b1 : decide ((x5_19 ++ (⟨#[32]⟩ : ByteArray)).size + a0_5.size ≤ 9223372036854775807) = true := decide_eq_true c44
                                  try have c44b2 : (9223372036854775807 < (x5_19 ++ (⟨#[32]⟩ : ByteArray)).size + a0_5.size) = False := eq_false (Nat.not_lt.2 c44)
                                  simp only [Option.some.injEq, Prod.mk.injEq] at H
                                  obtain ⟨rfl, rfl⟩ := H
                                  have hcz45_0 : wc.cell? ⟨gb174, 0, none⟩ = some (.int .i64 a0_0) := (blk_cell BK174.out 0).trans rfl
                                  have hcz45_1 : wc.cell? ⟨gb174, 1, none⟩ = some (.int .i64 a0_1) := (blk_cell BK174.out 1).trans rfl
                                  have hcz45_2 : wc.cell? ⟨gb174, 2, none⟩ = some (.int .i64 a0_2) := (blk_cell BK174.out 2).trans rfl
                                  have hcz45_3 : wc.cell? ⟨gb174, 3, none⟩ = some (.int .i64 a0_3) := (blk_cell BK174.out 3).trans rfl
                                  have hcz45_4 : wc.cell? ⟨gb174, 4, none⟩ = some (.int .i64 a0_4) := (blk_cell BK174.out 4).trans rfl
                                  have hcz45_5 : wc.cell? ⟨gb174, 5, none⟩ = some (.string a0_5) := (blk_cell BK174.out 5).trans rfl
                                  have hfz45_0 := blk_frozen BK174.out 0
                                  have hfz45_1 := blk_frozen BK174.out 1
                                  have hfz45_2 := blk_frozen BK174.out 2
                                  have hfz45_3 := blk_frozen BK174.out 3
                                  have hfz45_4 := blk_frozen BK174.out 4
                                  have hfz45_5 := blk_frozen BK174.out 5
                                  go_wp2
                                  go_ret2
                                  exact ⟨by first | rfl | (simp [errW_none, errW_some] <;> rfl) | (simp [*, errW_none, errW_some] <;> rfl), by repeat (first | (with_reducible first | exact HB.out | apply below_alloc | apply pw_below_drewN | apply below_drew1 | refine below_set ?_ GE174.out) | exact HB.out)⟩
                                · rw [if_neg c44] at H
                                  exact absurd H (by simp)
                              · rw [if_neg c43] at H
                                exact absurd H (by simp)
                            · replace c42 := Bool.eq_false_iff.mpr c42
                              subst c42
                              have H1 : (some (x5_19, 0)) = some (r1, r2) := by rw [if_neg (show ¬ (false = true) by decide)] at H; exact H
                              clear H
                              have H := H1
                              clear H1
                              simp only [Option.some.injEq, Prod.mk.injEq] at H
                              obtain ⟨rfl, rfl⟩ := H
                              go_wp2
                              go_ret2
                              exact ⟨by first | rfl | (simp [errW_none, errW_some] <;> rfl) | (simp [*, errW_none, errW_some] <;> rfl), by repeat (first | (with_reducible first | exact HB.out | apply below_alloc | apply pw_below_drewN | apply below_drew1 | refine below_set ?_ GE174.out) | exact HB.out)⟩
                · rw [if_neg c18] at H
                  exact absurd H (by simp)
              · rw [if_neg c16] at H
                exact absurd H (by simp)
            · rw [if_neg c15] at H
              exact absurd H (by simp)
          · rw [if_neg c14] at H
            exact absurd H (by simp)
        · rw [if_neg c13] at H
          exact absurd H (by simp)

end Go.Proofs.YtifdlbdecjlnaaaDoor.PAll
