/- The machine's side of this claim, written by a program of this session out of the translation: for each Go function a Lean function of its answers, and the proof that the code comes to just these. Conditions: those that each theorem states. -/
import Derived.Test.YthkipipfdlepnaaPAllx0
import Derived.Test.YthkipipfdlepnaaPAllx1
import Derived.Test.YthkipipfdlepnaaPAllx3
import Derived.Test.YthkipipfdlepnaaPAllx4
import Derived.Test.YthkipipfdlepnaaPAllx11
namespace Go.Proofs.Ythkipipfdlepnaa.PAll
open Go.RowKit Go.Proofs.YthkipipfdlepnaaW.PrintWords Go.Proofs.YthkipipfdlepnaaW.PrintLast Go.Proofs.YthkipipfdlepnaaW.PrintMore
attribute [local go_sem] max2_int min2_int max_two min_two max_three min_three max_four min_four   -- for this text's walks alone
set_option linter.unusedVariables false
set_option linter.unusedSimpArgs false

attribute [local go_sem high] eqA23
/-! ### colloquylaw04_CommandBack: function 7 -/
mutual
def colloquylaw04_CommandBack.j0 : Nat → Int → Int → Bool → Bool → Int → Int → Int → Int → Int → ByteArray → Option (Bool)
  | 0, _, _, _, _, _, _, _, _, _, _ => none
  | k + 1, x1, x2, x7, x24, x375000, x375001, x375002, x375003, x375004, x375005 => if x24 = true then (some x7) else ((command_Put.f k x375000 x375001 x375002 x375003 x375004 x375005).bind fun bt376 => (if bt376.2 = 0 then ((command_Get.f k bt376.1).bind fun bt380 => (if ([] : List Int).length + bt376.1.length < 140737488355328 then ((some (([] : List Int) ++ bt376.1 : List Int)).bind fun y388 => (if y388.length < 140737488355328 then ((command_Get.f k (y388 ++ [x2])).bind fun bt394 => (if bt380.2.2.2.2.2.2 = 0 then (if (!(bt380.1 == x375000) || (!(bt380.2.1 == x375001) || (!(bt380.2.2.1 == x375002) || (!(bt380.2.2.2.1 == x375003) || (!(bt380.2.2.2.2.1 == x375004) || (!(bt380.2.2.2.2.2.1.toList == x375005.toList))))))) = true then (colloquylaw04_CommandBack.j1 k x1 bt376.1 true) else (colloquylaw04_CommandBack.j1 k x1 bt376.1 (bt394.2.2.2.2.2.2 == 0))) else (colloquylaw04_CommandBack.j1 k x1 bt376.1 true))) else (none))) else (none))) else (some ((bt376.1.length : Int) == 0))))
def colloquylaw04_CommandBack.j1 : Nat → Int → List Int → Bool → Option (Bool)
  | 0, _, _, _ => none
  | k + 1, x1, x8, x60 => if x60 = true then (some false) else (if x1 < 0 then (some true) else (if x1 ≥ (x8.length : Int) then (some true) else (if 0 ≤ x1 then (if x1 ≤ (x8.length : Int) then ((command_Get.f k (x8.take (x1 : Int).toNat)).bind fun bt406 => (some (bt406.2.2.2.2.2.2 == 3))) else (none)) else (none))))
end
def colloquylaw04_CommandBack.f (k : Nat) (a0_0 : Int) (a0_1 : Int) (a0_2 : Int) (a0_3 : Int) (a0_4 : Int) (a0_5 : ByteArray) (a1 : Int) (a2 : Int) : Option (Bool) := (colloquylaw04_awake.f k).bind fun t375 => (if t375 = true then (colloquylaw04_CommandBack.j0 k a1 a2 t375 (decide ((a0_5.size : Int) > 1000)) a0_0 a0_1 a0_2 a0_3 a0_4 a0_5) else (colloquylaw04_CommandBack.j0 k a1 a2 t375 true a0_0 a0_1 a0_2 a0_3 a0_4 a0_5))
theorem colloquylaw04_CommandBack.mono_l : ∀ k, (∀ y0 y1 y2 y3 y4 y5 y6 y7 y8 y9, LeO (colloquylaw04_CommandBack.j0 k y0 y1 y2 y3 y4 y5 y6 y7 y8 y9) (colloquylaw04_CommandBack.j0 (k + 1) y0 y1 y2 y3 y4 y5 y6 y7 y8 y9)) ∧ (∀ y0 y1 y2, LeO (colloquylaw04_CommandBack.j1 k y0 y1 y2) (colloquylaw04_CommandBack.j1 (k + 1) y0 y1 y2))
  | 0 => ⟨fun _ _ _ _ _ _ _ _ _ _ r h => by simp [colloquylaw04_CommandBack.j0] at h, fun _ _ _ r h => by simp [colloquylaw04_CommandBack.j1] at h⟩
  | k + 1 => by
    obtain ⟨ih0, ih1⟩ := colloquylaw04_CommandBack.mono_l k
    refine ⟨?_, ?_⟩
    · intro y0 y1 y2 y3 y4 y5 y6 y7 y8 y9
      unfold colloquylaw04_CommandBack.j0
      repeat' first
      | (with_reducible exact ih0 _ _ _ _ _ _ _ _ _ _)
      | (with_reducible exact ih1 _ _ _)
      | (with_reducible exact colloquylaw04_awake.mono _)
      | (with_reducible exact command_Get.mono _ _)
      | (with_reducible exact command_Put.mono _ _ _ _ _ _ _)
      | (with_reducible exact LeO.refl _)
      | (with_reducible exact LeO.none _)
      | (with_reducible refine LeO.ite ?_ ?_)
      | (with_reducible refine LeO.bind ?_ (fun _ => ?_))
      | exact ih0 _ _ _ _ _ _ _ _ _ _
      | exact ih1 _ _ _
      | exact colloquylaw04_awake.mono _
      | exact command_Get.mono _ _
      | exact command_Put.mono _ _ _ _ _ _ _
      | exact LeO.none _
      | refine LeO.ite ?_ ?_
      | refine LeO.bind ?_ (fun _ => ?_)
    · intro y0 y1 y2
      unfold colloquylaw04_CommandBack.j1
      repeat' first
      | (with_reducible exact ih0 _ _ _ _ _ _ _ _ _ _)
      | (with_reducible exact ih1 _ _ _)
      | (with_reducible exact colloquylaw04_awake.mono _)
      | (with_reducible exact command_Get.mono _ _)
      | (with_reducible exact command_Put.mono _ _ _ _ _ _ _)
      | (with_reducible exact LeO.refl _)
      | (with_reducible exact LeO.none _)
      | (with_reducible refine LeO.ite ?_ ?_)
      | (with_reducible refine LeO.bind ?_ (fun _ => ?_))
      | exact ih0 _ _ _ _ _ _ _ _ _ _
      | exact ih1 _ _ _
      | exact colloquylaw04_awake.mono _
      | exact command_Get.mono _ _
      | exact command_Put.mono _ _ _ _ _ _ _
      | exact LeO.none _
      | refine LeO.ite ?_ ?_
      | refine LeO.bind ?_ (fun _ => ?_)
theorem colloquylaw04_CommandBack.mono : ∀ a0 a1 a2 a3 a4 a5 a6 a7 k, LeO (colloquylaw04_CommandBack.f k a0 a1 a2 a3 a4 a5 a6 a7) (colloquylaw04_CommandBack.f (k + 1) a0 a1 a2 a3 a4 a5 a6 a7) := by
  intro a0 a1 a2 a3 a4 a5 a6 a7 k
  obtain ⟨ih0, ih1⟩ := colloquylaw04_CommandBack.mono_l k
  unfold colloquylaw04_CommandBack.f
  repeat' first
      | (with_reducible exact ih0 _ _ _ _ _ _ _ _ _ _)
      | (with_reducible exact ih1 _ _ _)
      | (with_reducible exact colloquylaw04_awake.mono _)
      | (with_reducible exact command_Get.mono _ _)
      | (with_reducible exact command_Put.mono _ _ _ _ _ _ _)
      | (with_reducible exact LeO.refl _)
      | (with_reducible exact LeO.none _)
      | (with_reducible refine LeO.ite ?_ ?_)
      | (with_reducible refine LeO.bind ?_ (fun _ => ?_))
      | exact ih0 _ _ _ _ _ _ _ _ _ _
      | exact ih1 _ _ _
      | exact colloquylaw04_awake.mono _
      | exact command_Get.mono _ _
      | exact command_Put.mono _ _ _ _ _ _ _
      | exact LeO.none _
      | refine LeO.ite ?_ ?_
      | refine LeO.bind ?_ (fun _ => ?_)
set_option maxHeartbeats 8000000 in
set_option maxRecDepth 100000 in
theorem colloquylaw04_CommandBack.calls (k : Nat) (a0_0 : Int) (a0_1 : Int) (a0_2 : Int) (a0_3 : Int) (a0_4 : Int) (a0_5 : ByteArray) (a1 : Int) (a2 : Int) (r : Bool) (w : World) (h : colloquylaw04_CommandBack.f k a0_0 a0_1 a0_2 a0_3 a0_4 a0_5 a1 a2 = some r) :
    Calls Try.prog 7 #[.agg #[.int .i64 a0_0, .int .i64 a0_1, .int .i64 a0_2, .int .i64 a0_3, .int .i64 a0_4, .string a0_5], .int .i64 a1, .int .u8 a2] w fun e w' => e = .returned (.bool r) ∧ Below w.heap.size w w' := by
  have hu23 := Try.underlying23
  have HB := Aside0.mk (Below.refl w.heap.size w)
  have H : ((colloquylaw04_awake.f k).bind fun t375 => (if t375 = true then (colloquylaw04_CommandBack.j0 k a1 a2 t375 (decide ((a0_5.size : Int) > 1000)) a0_0 a0_1 a0_2 a0_3 a0_4 a0_5) else (colloquylaw04_CommandBack.j0 k a1 a2 t375 true a0_0 a0_1 a0_2 a0_3 a0_4 a0_5))) = some r := h
  clear h
  replace H := Option.bind_eq_some_iff.mp H
  obtain ⟨t375, A40, H⟩ := H
  replace H : (if t375 = true then (colloquylaw04_CommandBack.j0 k a1 a2 t375 (decide ((a0_5.size : Int) > 1000)) a0_0 a0_1 a0_2 a0_3 a0_4 a0_5) else (colloquylaw04_CommandBack.j0 k a1 a2 t375 true a0_0 a0_1 a0_2 a0_3 a0_4 a0_5)) = some r := H
  have A4 := Aside0.mk A40
  clear A40
  have HC5 := Aside0.mk H
  clear H
  go_enter Try.func7, Try.ntmps7
  go_upto_region 2 with (first | ((with_reducible refine gate_dst (N := 3) rfl ?_); (try (refine gate_guard (by rfl) ?_; dsimp only)); refine box_event ?hg (N := 3) ?hd (cs := #[.int .i64 a0_0, .int .i64 a0_1, .int .i64 a0_2, .int .i64 a0_3, .int .i64 a0_4, .string a0_5]) (t := 23) ?hr ?_; (case hd => rfl); (case hg => rfl); (case hr => first | (go_simp; done) | (go_simp; rfl)); intro gb374 hg w6 hbox hb; have n0_ := Aside0.mk (below_step (by repeat (first | (with_reducible first | exact HB.out | apply below_alloc | apply pw_below_drewN | apply below_drew1) | exact HB.out)) hb); have n1_ := Aside0.mk (hbox); have n2_ := Aside0.mk ((by rw [hg]; exact (below_size (by repeat (first | (with_reducible first | exact HB.out | apply below_alloc | apply pw_below_drewN | apply below_drew1) | exact HB.out))) : w.heap.size ≤ gb374)); have n3_ := Aside0.mk ((by rw [hg]; exact (below_size (by repeat (first | (with_reducible first | exact HB.out | apply below_alloc | apply pw_below_drewN | apply below_drew1) | exact HB.out))) : w.heap.size ≤ gb374)); clear HB; have HB := n0_; have BK374 := n1_; have GW374 := n2_; have GE374 := n3_; clear n0_ n1_ n2_ n3_; clear hb hbox hg) | ((with_reducible refine gate_callee (f := 9) rfl ?_); refine goesL_ (some 16) rfl rfl Try.func9 (by kernel_rfl) rfl #[] rfl (by (try simp only [List.map_toArray, List.map_cons, List.map_nil]); first | done | rfl | (simp only [List.length_drop, List.length_take]; rfl)) ?_; (with_reducible refine (colloquylaw04_awake.calls k  t375 _ A4.out).mono ?_); rintro e w7 ⟨rfl, hb⟩; refine ⟨_, rfl, ?_⟩; have n0_ := Aside0.mk (blk_below (g := gb374) (o := .cells #[.int .i64 a0_0, .int .i64 a0_1, .int .i64 a0_2, .int .i64 a0_3, .int .i64 a0_4, .string a0_5] 23 (0, 0)) (by (with_reducible repeat (first | refine blk_drewN ?_ _ | refine blk_drew ?_ | refine blk_alloc ?_ _)); exact BK374.out) hb); have n1_ := Aside0.mk (below_step (by repeat (first | (with_reducible first | exact HB.out | apply below_alloc | apply pw_below_drewN | apply below_drew1 | refine below_set ?_ GE374.out) | exact HB.out)) hb); clear BK374; clear HB; have BK374 := n0_; have HB := n1_; clear n0_ n1_; (try clear hb); (try clear hb2); (try clear hk); (try clear hi)))
  (try simp only [Act.put, List.setIfInBounds_toArray, List.set_cons_zero, List.set_cons_succ])
  go_cut [24] (fun v24 wc => ∃ (kq : Nat) (x24_4 : Bool), v24 = .bool x24_4 ∧ Aside0 (colloquylaw04_CommandBack.j0 kq a1 a2 t375 x24_4 a0_0 a0_1 a0_2 a0_3 a0_4 a0_5 = some r) ∧ Aside0 (kq ≤ k) ∧ Aside0 (wc.heap[gb374]? = some (.cells #[.int .i64 a0_0, .int .i64 a0_1, .int .i64 a0_2, .int .i64 a0_3, .int .i64 a0_4, .string a0_5] 23 (0, 0))) ∧ Aside0 (Below w.heap.size w wc))
  case first =>
    have H := HC5.out
    clear HC5
    by_cases c8 : t375 = true
    · subst c8
      have H1 : (colloquylaw04_CommandBack.j0 k a1 a2 true (decide ((a0_5.size : Int) > 1000)) a0_0 a0_1 a0_2 a0_3 a0_4 a0_5) = some r := by rw [if_pos rfl] at H; exact H
      clear H
      have H := H1
      clear H1
      have H' := Aside0.mk H
      clear H
      have hcz9_0 : w7.cell? ⟨gb374, 0, none⟩ = some (.int .i64 a0_0) := (blk_cell BK374.out 0).trans rfl
      have hcz9_1 : w7.cell? ⟨gb374, 1, none⟩ = some (.int .i64 a0_1) := (blk_cell BK374.out 1).trans rfl
      have hcz9_2 : w7.cell? ⟨gb374, 2, none⟩ = some (.int .i64 a0_2) := (blk_cell BK374.out 2).trans rfl
      have hcz9_3 : w7.cell? ⟨gb374, 3, none⟩ = some (.int .i64 a0_3) := (blk_cell BK374.out 3).trans rfl
      have hcz9_4 : w7.cell? ⟨gb374, 4, none⟩ = some (.int .i64 a0_4) := (blk_cell BK374.out 4).trans rfl
      have hcz9_5 : w7.cell? ⟨gb374, 5, none⟩ = some (.string a0_5) := (blk_cell BK374.out 5).trans rfl
      have hfz9_0 := blk_frozen BK374.out 0
      have hfz9_1 := blk_frozen BK374.out 1
      have hfz9_2 := blk_frozen BK374.out 2
      have hfz9_3 := blk_frozen BK374.out 3
      have hfz9_4 := blk_frozen BK374.out 4
      have hfz9_5 := blk_frozen BK374.out 5
      go_wp2
      go_meet
      case rel => exact ⟨_, (decide ((a0_5.size : Int) > 1000)), (by first | rfl | (simp; done) | (simp [*]; done)), H', ⟨by first | omega | exact Nat.le_refl _⟩, ⟨by (with_reducible repeat (first | refine blk_drewN ?_ _ | refine blk_drew ?_ | refine blk_alloc ?_ _)); exact BK374.out⟩, ⟨by repeat (first | (with_reducible first | exact HB.out | apply below_alloc | apply pw_below_drewN | apply below_drew1 | refine below_set ?_ GE374.out) | exact HB.out)⟩⟩
    · replace c8 := Bool.eq_false_iff.mpr c8
      subst c8
      have H1 : (colloquylaw04_CommandBack.j0 k a1 a2 false true a0_0 a0_1 a0_2 a0_3 a0_4 a0_5) = some r := by rw [if_neg (show ¬ (false = true) by decide)] at H; exact H
      clear H
      have H := H1
      clear H1
      have H' := Aside0.mk H
      clear H
      go_wp2
      go_meet
      case rel => exact ⟨_, (true), (by first | rfl | (simp; done) | (simp [*]; done)), H', ⟨by first | omega | exact Nat.le_refl _⟩, ⟨by (with_reducible repeat (first | refine blk_drewN ?_ _ | refine blk_drew ?_ | refine blk_alloc ?_ _)); exact BK374.out⟩, ⟨by repeat (first | (with_reducible first | exact HB.out | apply below_alloc | apply pw_below_drewN | apply below_drew1 | refine below_set ?_ GE374.out) | exact HB.out)⟩⟩
  case rest =>
    clear HC5
    try clear p2
    try clear c7
    try clear c8
    try clear c9
    try clear hcz9_0
    try clear hcz9_1
    try clear hcz9_2
    try clear hcz9_3
    try clear hcz9_4
    try clear hcz9_5
    try clear hfz9_0
    try clear hfz9_1
    try clear hfz9_2
    try clear hfz9_3
    try clear hfz9_4
    try clear hfz9_5
    obtain ⟨kq, x24_4, rfl, HA, HJ4, BK374, HB⟩ := hcut
    cases kq with
    | zero => exact absurd HA.out (by simp [colloquylaw04_CommandBack.j0])
    | succ kj4 =>
      have H := HA.out
      clear HA
      simp only [colloquylaw04_CommandBack.j0] at H
      by_cases c10 : x24_4 = true
      · subst c10
        have H1 : (some t375) = some r := by rw [if_pos rfl] at H; exact H
        clear H
        have H := H1
        clear H1
        obtain rfl := Option.some.inj H
        go_wp2
        go_ret
        exact ⟨by first | rfl | (simp [errW_none, errW_some] <;> rfl) | (simp [*, errW_none, errW_some] <;> rfl), by repeat (first | (with_reducible first | exact HB.out | apply below_alloc | apply pw_below_drewN | apply below_drew1 | refine below_set ?_ GE374.out) | exact HB.out)⟩
      · replace c10 := Bool.eq_false_iff.mpr c10
        subst c10
        have H1 : ((command_Put.f kj4 a0_0 a0_1 a0_2 a0_3 a0_4 a0_5).bind fun bt376 => (if bt376.2 = 0 then ((command_Get.f kj4 bt376.1).bind fun bt380 => (if ([] : List Int).length + bt376.1.length < 140737488355328 then ((some (([] : List Int) ++ bt376.1 : List Int)).bind fun y388 => (if y388.length < 140737488355328 then ((command_Get.f kj4 (y388 ++ [a2])).bind fun bt394 => (if bt380.2.2.2.2.2.2 = 0 then (if (!(bt380.1 == a0_0) || (!(bt380.2.1 == a0_1) || (!(bt380.2.2.1 == a0_2) || (!(bt380.2.2.2.1 == a0_3) || (!(bt380.2.2.2.2.1 == a0_4) || (!(bt380.2.2.2.2.2.1.toList == a0_5.toList))))))) = true then (colloquylaw04_CommandBack.j1 kj4 a1 bt376.1 true) else (colloquylaw04_CommandBack.j1 kj4 a1 bt376.1 (bt394.2.2.2.2.2.2 == 0))) else (colloquylaw04_CommandBack.j1 kj4 a1 bt376.1 true))) else (none))) else (none))) else (some ((bt376.1.length : Int) == 0)))) = some r := by rw [if_neg (show ¬ (false = true) by decide)] at H; exact H
        clear H
        have H := H1
        clear H1
        replace H := Option.bind_eq_some_iff.mp H
        obtain ⟨⟨t376, t379⟩, A110, H⟩ := H
        replace H : (if t379 = 0 then ((command_Get.f kj4 t376).bind fun bt380 => (if ([] : List Int).length + t376.length < 140737488355328 then ((some (([] : List Int) ++ t376 : List Int)).bind fun y388 => (if y388.length < 140737488355328 then ((command_Get.f kj4 (y388 ++ [a2])).bind fun bt394 => (if bt380.2.2.2.2.2.2 = 0 then (if (!(bt380.1 == a0_0) || (!(bt380.2.1 == a0_1) || (!(bt380.2.2.1 == a0_2) || (!(bt380.2.2.2.1 == a0_3) || (!(bt380.2.2.2.2.1 == a0_4) || (!(bt380.2.2.2.2.2.1.toList == a0_5.toList))))))) = true then (colloquylaw04_CommandBack.j1 kj4 a1 t376 true) else (colloquylaw04_CommandBack.j1 kj4 a1 t376 (bt394.2.2.2.2.2.2 == 0))) else (colloquylaw04_CommandBack.j1 kj4 a1 t376 true))) else (none))) else (none))) else (some ((t376.length : Int) == 0))) = some r := H
        have A11 := Aside0.mk A110
        clear A110
        by_cases c12 : t379 = 0
        · rw [if_pos c12] at H
          have c12b0 : (t379 == 0) = true := beq_iff_eq.mpr c12
          have c12b1 : (t379 != 0) = false := bne_eq_false_iff_eq.mpr c12
          clear c12
          replace H := Option.bind_eq_some_iff.mp H
          obtain ⟨⟨t380, t381, t382, t383, t384, t385, t386⟩, A130, H⟩ := H
          replace H : (if ([] : List Int).length + t376.length < 140737488355328 then ((some (([] : List Int) ++ t376 : List Int)).bind fun y388 => (if y388.length < 140737488355328 then ((command_Get.f kj4 (y388 ++ [a2])).bind fun bt394 => (if t386 = 0 then (if (!(t380 == a0_0) || (!(t381 == a0_1) || (!(t382 == a0_2) || (!(t383 == a0_3) || (!(t384 == a0_4) || (!(t385.toList == a0_5.toList))))))) = true then (colloquylaw04_CommandBack.j1 kj4 a1 t376 true) else (colloquylaw04_CommandBack.j1 kj4 a1 t376 (bt394.2.2.2.2.2.2 == 0))) else (colloquylaw04_CommandBack.j1 kj4 a1 t376 true))) else (none))) else (none)) = some r := H
          have A13 := Aside0.mk A130
          clear A130
          by_cases c14 : ([] : List Int).length + t376.length < 140737488355328
          · rw [if_pos c14] at H
            have LMc14 := Aside0.mk c14
            clear c14
            obtain ⟨y388, hy388⟩ : ∃ y_ : List Int, y_ = (([] : List Int) ++ t376) := ⟨_, rfl⟩
            replace H : (if y388.length < 140737488355328 then ((command_Get.f kj4 (y388 ++ [a2])).bind fun bt394 => (if t386 = 0 then (if (!(t380 == a0_0) || (!(t381 == a0_1) || (!(t382 == a0_2) || (!(t383 == a0_3) || (!(t384 == a0_4) || (!(t385.toList == a0_5.toList))))))) = true then (colloquylaw04_CommandBack.j1 kj4 a1 t376 true) else (colloquylaw04_CommandBack.j1 kj4 a1 t376 (bt394.2.2.2.2.2.2 == 0))) else (colloquylaw04_CommandBack.j1 kj4 a1 t376 true))) else (none)) = some r := by first | (rw [hy388]; with_reducible exact H) | (have H2_ := (Option.bind_some _ _).symm.trans H; rw [hy388]; with_reducible exact H2_) | (have H2_ := (Option.bind_some _ _).symm.trans H; with_reducible exact H2_) | with_reducible exact H | (rw [hy388]; exact H) | exact H
            have Ny388 := Aside0.mk hy388
            clear hy388
            by_cases c15 : y388.length < 140737488355328
            · rw [if_pos c15] at H
              have LMc15 := Aside0.mk c15
              clear c15
              obtain ⟨y391, hy391⟩ : ∃ y_ : List Int, y_ = (y388 ++ [a2]) := ⟨_, rfl⟩
              replace H : ((command_Get.f kj4 y391).bind fun bt394 => (if t386 = 0 then (if (!(t380 == a0_0) || (!(t381 == a0_1) || (!(t382 == a0_2) || (!(t383 == a0_3) || (!(t384 == a0_4) || (!(t385.toList == a0_5.toList))))))) = true then (colloquylaw04_CommandBack.j1 kj4 a1 t376 true) else (colloquylaw04_CommandBack.j1 kj4 a1 t376 (bt394.2.2.2.2.2.2 == 0))) else (colloquylaw04_CommandBack.j1 kj4 a1 t376 true))) = some r := by first | (rw [hy391]; with_reducible exact H) | (have H2_ := (Option.bind_some _ _).symm.trans H; rw [hy391]; with_reducible exact H2_) | (have H2_ := (Option.bind_some _ _).symm.trans H; with_reducible exact H2_) | with_reducible exact H | (rw [hy391]; exact H) | exact H
              have Ny391 := Aside0.mk hy391
              clear hy391
              replace H := Option.bind_eq_some_iff.mp H
              obtain ⟨⟨t394, t395, t396, t397, t398, t399, t400⟩, A160, H⟩ := H
              replace H : (if t386 = 0 then (if (!(t380 == a0_0) || (!(t381 == a0_1) || (!(t382 == a0_2) || (!(t383 == a0_3) || (!(t384 == a0_4) || (!(t385.toList == a0_5.toList))))))) = true then (colloquylaw04_CommandBack.j1 kj4 a1 t376 true) else (colloquylaw04_CommandBack.j1 kj4 a1 t376 (t400 == 0))) else (colloquylaw04_CommandBack.j1 kj4 a1 t376 true)) = some r := H
              have A16 := Aside0.mk A160
              clear A160
              have HC17 := Aside0.mk H
              clear H
              have hcz18_0 : wc.cell? ⟨gb374, 0, none⟩ = some (.int .i64 a0_0) := (blk_cell BK374.out 0).trans rfl
              have hcz18_1 : wc.cell? ⟨gb374, 1, none⟩ = some (.int .i64 a0_1) := (blk_cell BK374.out 1).trans rfl
              have hcz18_2 : wc.cell? ⟨gb374, 2, none⟩ = some (.int .i64 a0_2) := (blk_cell BK374.out 2).trans rfl
              have hcz18_3 : wc.cell? ⟨gb374, 3, none⟩ = some (.int .i64 a0_3) := (blk_cell BK374.out 3).trans rfl
              have hcz18_4 : wc.cell? ⟨gb374, 4, none⟩ = some (.int .i64 a0_4) := (blk_cell BK374.out 4).trans rfl
              have hcz18_5 : wc.cell? ⟨gb374, 5, none⟩ = some (.string a0_5) := (blk_cell BK374.out 5).trans rfl
              have hfz18_0 := blk_frozen BK374.out 0
              have hfz18_1 := blk_frozen BK374.out 1
              have hfz18_2 := blk_frozen BK374.out 2
              have hfz18_3 := blk_frozen BK374.out 3
              have hfz18_4 := blk_frozen BK374.out 4
              have hfz18_5 := blk_frozen BK374.out 5
              go_upto_region 9 with (first | ((with_reducible refine gate_callee (f := 11) rfl ?_); refine goesL_ (some 28) rfl rfl Try.func11 (by kernel_rfl) rfl #[.agg #[.int .i64 a0_0, .int .i64 a0_1, .int .i64 a0_2, .int .i64 a0_3, .int .i64 a0_4, .string a0_5]] rfl (by (try simp only [List.map_toArray, List.map_cons, List.map_nil]); first | done | rfl | (simp only [List.length_drop, List.length_take]; rfl)) ?_; (with_reducible refine (command_Put.calls kj4 a0_0 a0_1 a0_2 a0_3 a0_4 a0_5 t376 t379 _ A11.out).mono ?_); rintro e w19 ⟨v377, rfl, ho0, hb⟩; refine ⟨_, rfl, ?_⟩; have n0_ := Aside0.mk (Kd.R_lower ho0 (below_size (by repeat (first | (with_reducible first | exact HB.out | apply below_alloc | apply pw_below_drewN | apply below_drew1 | refine below_set ?_ GE374.out) | exact HB.out)))); have n1_ := Aside0.mk (blk_below (g := gb374) (o := .cells #[.int .i64 a0_0, .int .i64 a0_1, .int .i64 a0_2, .int .i64 a0_3, .int .i64 a0_4, .string a0_5] 23 (0, 0)) (by (with_reducible repeat (first | refine blk_drewN ?_ _ | refine blk_drew ?_ | refine blk_alloc ?_ _)); exact BK374.out) hb); have n2_ := Aside0.mk (below_step (by repeat (first | (with_reducible first | exact HB.out | apply below_alloc | apply pw_below_drewN | apply below_drew1 | refine below_set ?_ GE374.out) | exact HB.out)) hb); clear BK374; clear HB; have HO378 := n0_; have BK374 := n1_; have HB := n2_; clear n0_ n1_ n2_; (try clear hb); (try clear hb2); (try clear hk); (try clear hi); (try clear ho0); obtain ⟨Ao20, co20, eo20⟩ := Kd.R_slice HO378.out; subst eo20) | ((with_reducible refine gate_callee (f := 16) rfl ?_); refine goesL_ (some 38) rfl rfl Try.func16 (by kernel_rfl) rfl #[.slice Ao20 t376.length co20] rfl (by (try simp only [List.map_toArray, List.map_cons, List.map_nil]); first | done | rfl | (simp only [List.length_drop, List.length_take]; rfl)) ?_; (with_reducible refine (command_Get.calls kj4 _ _ t376 t380 t381 t382 t383 t384 t385 t386 _ ?side1 ?side2 A13.out).mono ?_); (case side1 => repeat (first | exact (Kd.R_reads' HO378.out).2.2 | (with_reducible refine Kd.C_alloc ?_ _) | (with_reducible refine Kd.C_drewN ?_ _) | (with_reducible refine Kd.C_drew ?_))); (case side2 => exact (Kd.R_reads' HO378.out).2.1); rintro e w21 ⟨rfl, hb⟩; refine ⟨_, rfl, ?_⟩; have n0_ := Aside0.mk (Kd.R_below (by (with_reducible repeat (first | apply Kd.R_alloc | apply Kd.R_drewN | apply Kd.R_drew)); exact HO378.out) hb); have n1_ := Aside0.mk (blk_below (g := gb374) (o := .cells #[.int .i64 a0_0, .int .i64 a0_1, .int .i64 a0_2, .int .i64 a0_3, .int .i64 a0_4, .string a0_5] 23 (0, 0)) (by (with_reducible repeat (first | refine blk_drewN ?_ _ | refine blk_drew ?_ | refine blk_alloc ?_ _)); exact BK374.out) hb); have n2_ := Aside0.mk (below_step (by repeat (first | (with_reducible first | exact HB.out | apply below_alloc | apply pw_below_drewN | apply below_drew1 | refine below_set ?_ GE374.out) | exact HB.out)) hb); clear HO378; clear BK374; clear HB; have HO378 := n0_; have BK374 := n1_; have HB := n2_; clear n0_ n1_ n2_; (try clear hb); (try clear hb2); (try clear hk); (try clear hi)) | ((with_reducible refine gate_dst (N := 10) rfl ?_); (try (refine gate_guard (by rfl) ?_; dsimp only)); refine box_event ?hg (N := 10) ?hd (cs := #[.int .i64 0, .int .i64 0, .int .i64 0, .int .i64 0, .int .i64 0, .string (⟨#[]⟩ : ByteArray)]) (t := 23) ?hr ?_; (case hd => rfl); (case hg => rfl); (case hr => first | (go_simp; done) | (go_simp; rfl)); intro gb387 hg w22 hbox hb; have n0_ := Aside0.mk (Kd.R_below (by (with_reducible repeat (first | apply Kd.R_alloc | apply Kd.R_drewN | apply Kd.R_drew)); exact HO378.out) hb); have n1_ := Aside0.mk (blk_below (g := gb374) (o := .cells #[.int .i64 a0_0, .int .i64 a0_1, .int .i64 a0_2, .int .i64 a0_3, .int .i64 a0_4, .string a0_5] 23 (0, 0)) (by (with_reducible repeat (first | refine blk_drewN ?_ _ | refine blk_drew ?_ | refine blk_alloc ?_ _)); exact BK374.out) hb); have n2_ := Aside0.mk (below_step (by repeat (first | (with_reducible first | exact HB.out | apply below_alloc | apply pw_below_drewN | apply below_drew1 | refine below_set ?_ GE374.out) | exact HB.out)) hb); have n3_ := Aside0.mk (hbox); have n4_ := Aside0.mk ((by rw [hg]; exact (below_size (by repeat (first | (with_reducible first | exact HB.out | apply below_alloc | apply pw_below_drewN | apply below_drew1 | refine below_set ?_ GE374.out) | exact HB.out))) : w.heap.size ≤ gb387)); have n5_ := Aside0.mk ((by rw [hg]; exact (below_size (by repeat (first | (with_reducible first | exact HB.out | apply below_alloc | apply pw_below_drewN | apply below_drew1 | refine below_set ?_ GE374.out) | exact HB.out))) : w.heap.size ≤ gb387)); have n6_ := Aside0.mk ((by rw [hg]; exact Nat.ne_of_lt (blk_lt (g := gb374) (o := .cells #[.int .i64 a0_0, .int .i64 a0_1, .int .i64 a0_2, .int .i64 a0_3, .int .i64 a0_4, .string a0_5] 23 (0, 0)) (by (with_reducible repeat (first | refine blk_drewN ?_ _ | refine blk_drew ?_ | refine blk_alloc ?_ _)); exact BK374.out)) : gb374 ≠ gb387)); have n7_ := Aside0.mk ((by rw [hg]; exact Nat.ne_of_gt (blk_lt (g := gb374) (o := .cells #[.int .i64 a0_0, .int .i64 a0_1, .int .i64 a0_2, .int .i64 a0_3, .int .i64 a0_4, .string a0_5] 23 (0, 0)) (by (with_reducible repeat (first | refine blk_drewN ?_ _ | refine blk_drew ?_ | refine blk_alloc ?_ _)); exact BK374.out)) : gb387 ≠ gb374)); clear HO378; clear BK374; clear HB; have HO378 := n0_; have BK374 := n1_; have HB := n2_; have BK387 := n3_; have GW387 := n4_; have GE387 := n5_; have NB374_387 := n6_; have NB387_374 := n7_; clear n0_ n1_ n2_ n3_ n4_ n5_ n6_ n7_; clear hb hbox hg; have hnb23 := NB387_374.out; have hnc23 := NB374_387.out; have hcz24_0 : w22.cell? ⟨gb387, 0, none⟩ = some (.int .i64 0) := (blk_cell BK387.out 0).trans rfl; have hcz24_1 : w22.cell? ⟨gb387, 1, none⟩ = some (.int .i64 0) := (blk_cell BK387.out 1).trans rfl; have hcz24_2 : w22.cell? ⟨gb387, 2, none⟩ = some (.int .i64 0) := (blk_cell BK387.out 2).trans rfl; have hcz24_3 : w22.cell? ⟨gb387, 3, none⟩ = some (.int .i64 0) := (blk_cell BK387.out 3).trans rfl; have hcz24_4 : w22.cell? ⟨gb387, 4, none⟩ = some (.int .i64 0) := (blk_cell BK387.out 4).trans rfl; have hcz24_5 : w22.cell? ⟨gb387, 5, none⟩ = some (.string (⟨#[]⟩ : ByteArray)) := (blk_cell BK387.out 5).trans rfl; have hfz24_0 := blk_frozen BK387.out 0; have hfz24_1 := blk_frozen BK387.out 1; have hfz24_2 := blk_frozen BK387.out 2; have hfz24_3 := blk_frozen BK387.out 3; have hfz24_4 := blk_frozen BK387.out 4; have hfz24_5 := blk_frozen BK387.out 5) | ((with_reducible refine gate_builtin (b := .append) (xs := #[.const (.slice none 0 0), .tmp 42]) rfl ?_); (try (refine gate_guard (by rfl) ?_; dsimp only)); at_builtin; refine Kd.R_append_rows (Kd.int .u8) (w0 := w) w.heap.size rfl (.const (.slice none 0 0)) (.tmp 42) 26 5 (.int .u8 0) 1 rfl Try.underlying26 info5 rfl (by decide) (by omega) (.slice none 0 0) ([] : List Int) t376 _ _ _ (fun k_ => some k_ ≠ (.slice Ao20 t376.length co20 : Value).ownBlock) (fun _ => False) rfl rfl ?aO ?aR (fun _ _ h => h) (fun _ h => h.elim) ?aF ?aB ?aS ?aL ?_; (case aR => refine (Kd.R_reads' (e := 5) (base := w.heap.size) (ok := fun k_ => True) (n := t376.length) (c := co20) ?_).2.2; exact (by (with_reducible repeat (first | apply Kd.R_alloc | apply Kd.R_drewN | apply Kd.R_drew)); exact (Kd.R_mono (Kd.R_far (p := ⟨gb387, 5, none⟩) (Kd.R_far (p := ⟨gb387, 4, none⟩) (Kd.R_far (p := ⟨gb387, 3, none⟩) (Kd.R_far (p := ⟨gb387, 2, none⟩) (Kd.R_far (p := ⟨gb387, 1, none⟩) (Kd.R_far (p := ⟨gb387, 0, none⟩) (Kd.R_types HO378.out BK387.out (by decide)) (fun _ hk => hk.2) (.int .i64 t380)) (fun _ hk => hk.2) (.int .i64 t381)) (fun _ hk => hk.2) (.int .i64 t382)) (fun _ hk => hk.2) (.int .i64 t383)) (fun _ hk => hk.2) (.int .i64 t384)) (fun _ hk => hk.2) (.string t385)) (fun _ h_ => h_.1)))); (case aB => exact (by repeat (first | (with_reducible first | exact HB.out | apply below_alloc | apply pw_below_drewN | apply below_drew1 | refine below_set ?_ GE374.out | refine below_set ?_ GE387.out) | exact HB.out))); (case aF => exact (fun k_ hk => Kd.fresh' (Kd.R_lt (by (with_reducible repeat (first | apply Kd.R_alloc | apply Kd.R_drewN | apply Kd.R_drew)); exact (Kd.R_mono (Kd.R_far (p := ⟨gb387, 5, none⟩) (Kd.R_far (p := ⟨gb387, 4, none⟩) (Kd.R_far (p := ⟨gb387, 3, none⟩) (Kd.R_far (p := ⟨gb387, 2, none⟩) (Kd.R_far (p := ⟨gb387, 1, none⟩) (Kd.R_far (p := ⟨gb387, 0, none⟩) (Kd.R_types HO378.out BK387.out (by decide)) (fun _ hk => hk.2) (.int .i64 t380)) (fun _ hk => hk.2) (.int .i64 t381)) (fun _ hk => hk.2) (.int .i64 t382)) (fun _ hk => hk.2) (.int .i64 t383)) (fun _ hk => hk.2) (.int .i64 t384)) (fun _ hk => hk.2) (.string t385)) (fun _ h_ => h_.1)))) k_ hk)); (case aO => exact ((Kd.R_nil _ _ _ _ (fun k_ => some k_ ≠ (.slice Ao20 t376.length co20 : Value).ownBlock)))); (case aS => exact (below_size (by repeat (first | (with_reducible first | exact HB.out | apply below_alloc | apply pw_below_drewN | apply below_drew1 | refine below_set ?_ GE374.out | refine below_set ?_ GE387.out) | exact HB.out)))); (case aL => have := LMc14.out; omega); intro v389 w25 ho hb hg hat; rw [← Ny388.out] at ho; have n0_ := Aside0.mk (blk_grown (g := gb374) (o := .cells #[.int .i64 a0_0, .int .i64 a0_1, .int .i64 a0_2, .int .i64 a0_3, .int .i64 a0_4, .string a0_5] 23 (0, 0)) (by (with_reducible repeat (first | refine blk_drewN ?_ _ | refine blk_drew ?_ | refine blk_alloc ?_ _)); refine blk_far ?_ NB374_387.out _; (with_reducible repeat (first | refine blk_drewN ?_ _ | refine blk_drew ?_ | refine blk_alloc ?_ _)); refine blk_far ?_ NB374_387.out _; (with_reducible repeat (first | refine blk_drewN ?_ _ | refine blk_drew ?_ | refine blk_alloc ?_ _)); refine blk_far ?_ NB374_387.out _; (with_reducible repeat (first | refine blk_drewN ?_ _ | refine blk_drew ?_ | refine blk_alloc ?_ _)); refine blk_far ?_ NB374_387.out _; (with_reducible repeat (first | refine blk_drewN ?_ _ | refine blk_drew ?_ | refine blk_alloc ?_ _)); refine blk_far ?_ NB374_387.out _; (with_reducible repeat (first | refine blk_drewN ?_ _ | refine blk_drew ?_ | refine blk_alloc ?_ _)); refine blk_far ?_ NB374_387.out _; (with_reducible repeat (first | refine blk_drewN ?_ _ | refine blk_drew ?_ | refine blk_alloc ?_ _)); exact BK374.out) hg (by simp [Value.ownBlock])); have n1_ := Aside0.mk (Kd.R_after (Kd.R_apart_nil (by (with_reducible repeat (first | apply Kd.R_alloc | apply Kd.R_drewN | apply Kd.R_drew)); exact (Kd.R_mono (Kd.R_far (p := ⟨gb387, 5, none⟩) (Kd.R_far (p := ⟨gb387, 4, none⟩) (Kd.R_far (p := ⟨gb387, 3, none⟩) (Kd.R_far (p := ⟨gb387, 2, none⟩) (Kd.R_far (p := ⟨gb387, 1, none⟩) (Kd.R_far (p := ⟨gb387, 0, none⟩) (Kd.R_types HO378.out BK387.out (by decide)) (fun _ hk => hk.2) (.int .i64 t380)) (fun _ hk => hk.2) (.int .i64 t381)) (fun _ hk => hk.2) (.int .i64 t382)) (fun _ hk => hk.2) (.int .i64 t383)) (fun _ hk => hk.2) (.int .i64 t384)) (fun _ hk => hk.2) (.string t385)) (fun _ h_ => h_.1)))) hg hat); have n2_ := Aside0.mk (blk_grown (g := gb387) (o := .cells #[.int .i64 t380, .int .i64 t381, .int .i64 t382, .int .i64 t383, .int .i64 t384, .string t385] 23 (0, 0)) (by (with_reducible repeat (first | refine blk_drewN ?_ _ | refine blk_drew ?_ | refine blk_alloc ?_ _)); refine blk_put (cs := #[.int .i64 t380, .int .i64 t381, .int .i64 t382, .int .i64 t383, .int .i64 t384, .string (⟨#[]⟩ : ByteArray)]) ?_ 5 _ rfl; (with_reducible repeat (first | refine blk_drewN ?_ _ | refine blk_drew ?_ | refine blk_alloc ?_ _)); refine blk_put (cs := #[.int .i64 t380, .int .i64 t381, .int .i64 t382, .int .i64 t383, .int .i64 0, .string (⟨#[]⟩ : ByteArray)]) ?_ 4 _ rfl; (with_reducible repeat (first | refine blk_drewN ?_ _ | refine blk_drew ?_ | refine blk_alloc ?_ _)); refine blk_put (cs := #[.int .i64 t380, .int .i64 t381, .int .i64 t382, .int .i64 0, .int .i64 0, .string (⟨#[]⟩ : ByteArray)]) ?_ 3 _ rfl; (with_reducible repeat (first | refine blk_drewN ?_ _ | refine blk_drew ?_ | refine blk_alloc ?_ _)); refine blk_put (cs := #[.int .i64 t380, .int .i64 t381, .int .i64 0, .int .i64 0, .int .i64 0, .string (⟨#[]⟩ : ByteArray)]) ?_ 2 _ rfl; (with_reducible repeat (first | refine blk_drewN ?_ _ | refine blk_drew ?_ | refine blk_alloc ?_ _)); refine blk_put (cs := #[.int .i64 t380, .int .i64 0, .int .i64 0, .int .i64 0, .int .i64 0, .string (⟨#[]⟩ : ByteArray)]) ?_ 1 _ rfl; (with_reducible repeat (first | refine blk_drewN ?_ _ | refine blk_drew ?_ | refine blk_alloc ?_ _)); refine blk_put (cs := #[.int .i64 0, .int .i64 0, .int .i64 0, .int .i64 0, .int .i64 0, .string (⟨#[]⟩ : ByteArray)]) ?_ 0 _ rfl; (with_reducible repeat (first | refine blk_drewN ?_ _ | refine blk_drew ?_ | refine blk_alloc ?_ _)); exact BK387.out) hg (by simp [Value.ownBlock])); have n3_ := Aside0.mk (hb); have n4_ := Aside0.mk (ho); clear BK374; clear HO378; clear BK387; clear HB; have BK374 := n0_; have HO378 := n1_; have BK387 := n2_; have HB := n3_; have HO390 := n4_; clear n0_ n1_ n2_ n3_ n4_; clear ho hb hg hat) | ((with_reducible refine gate_builtin (b := .append) (xs := #[.tmp 43, .tmp 45]) rfl ?_); (try (refine gate_guard (by rfl) ?_; dsimp only)); at_builtin; refine Kd.R_append (Kd.int .u8) (w0 := w) w.heap.size rfl (.tmp 43) (.tmp 45) 26 5 (.int .u8 0) 1 rfl Try.underlying26 info5 rfl (by decide) (by omega) v389 y388 a2 [.int .u8 a2] (fun k_ => some k_ ≠ (.slice Ao20 t376.length co20 : Value).ownBlock) (fun _ => False) rfl rfl ?aP (fun _ hk => hk.elim) ?aF ?aO ?aB ?aS ?aL ?_; (case aP => exact rfl); (case aB => exact (by repeat (first | (with_reducible first | exact HB.out | apply below_alloc | apply pw_below_drewN | apply below_drew1 | refine below_set ?_ GE374.out | refine below_set ?_ GE387.out) | exact HB.out))); (case aF => exact (fun k_ hk => Kd.fresh' (Kd.R_lt (by (with_reducible repeat (first | apply Kd.R_alloc | apply Kd.R_drewN | apply Kd.R_drew)); exact HO378.out)) k_ hk)); (case aO => exact (by (with_reducible repeat (first | apply Kd.R_alloc | apply Kd.R_drewN | apply Kd.R_drew)); exact HO390.out)); (case aS => exact (below_size (by repeat (first | (with_reducible first | exact HB.out | apply below_alloc | apply pw_below_drewN | apply below_drew1 | refine below_set ?_ GE374.out | refine below_set ?_ GE387.out) | exact HB.out)))); (case aL => have := LMc15.out; omega); intro v392 w26 ho hb hg hat; rw [← Ny391.out] at ho; have n0_ := Aside0.mk (blk_grown (g := gb374) (o := .cells #[.int .i64 a0_0, .int .i64 a0_1, .int .i64 a0_2, .int .i64 a0_3, .int .i64 a0_4, .string a0_5] 23 (0, 0)) (by (with_reducible repeat (first | refine blk_drewN ?_ _ | refine blk_drew ?_ | refine blk_alloc ?_ _)); exact BK374.out) hg (Kd.R_ne HO390.out BK374.out (by decide))); have n1_ := Aside0.mk (Kd.R_after (ok := (fun _ => True)) (by (with_reducible repeat (first | apply Kd.R_alloc | apply Kd.R_drewN | apply Kd.R_drew)); exact HO378.out) hg hat); have n2_ := Aside0.mk (blk_grown (g := gb387) (o := .cells #[.int .i64 t380, .int .i64 t381, .int .i64 t382, .int .i64 t383, .int .i64 t384, .string t385] 23 (0, 0)) (by (with_reducible repeat (first | refine blk_drewN ?_ _ | refine blk_drew ?_ | refine blk_alloc ?_ _)); exact BK387.out) hg (Kd.R_ne HO390.out BK387.out (by decide))); have n3_ := Aside0.mk (hb); have n4_ := Aside0.mk (ho); clear BK374; clear HO378; clear BK387; clear HB; clear HO390; have BK374 := n0_; have HO378 := n1_; have BK387 := n2_; have HB := n3_; have HO393 := n4_; clear n0_ n1_ n2_ n3_ n4_; clear ho hb hg hat; obtain ⟨Ao27, co27, eo27⟩ := Kd.R_slice HO393.out; subst eo27) | ((with_reducible refine gate_callee (f := 16) rfl ?_); refine goesL_ (some 47) rfl rfl Try.func16 (by kernel_rfl) rfl #[.slice Ao27 y391.length co27] rfl (by (try simp only [List.map_toArray, List.map_cons, List.map_nil]); first | done | rfl | (simp only [List.length_drop, List.length_take]; rfl)) ?_; (with_reducible refine (command_Get.calls kj4 _ _ y391 t394 t395 t396 t397 t398 t399 t400 _ ?side1 ?side2 A16.out).mono ?_); (case side1 => repeat (first | exact (Kd.R_reads' HO393.out).2.2 | (with_reducible refine Kd.C_alloc ?_ _) | (with_reducible refine Kd.C_drewN ?_ _) | (with_reducible refine Kd.C_drew ?_))); (case side2 => exact (Kd.R_reads' HO393.out).2.1); rintro e w28 ⟨rfl, hb⟩; refine ⟨_, rfl, ?_⟩; have n0_ := Aside0.mk (Kd.R_below (by (with_reducible repeat (first | apply Kd.R_alloc | apply Kd.R_drewN | apply Kd.R_drew)); exact HO378.out) hb); have n1_ := Aside0.mk (Kd.R_below (by (with_reducible repeat (first | apply Kd.R_alloc | apply Kd.R_drewN | apply Kd.R_drew)); exact HO393.out) hb); have n2_ := Aside0.mk (blk_below (g := gb374) (o := .cells #[.int .i64 a0_0, .int .i64 a0_1, .int .i64 a0_2, .int .i64 a0_3, .int .i64 a0_4, .string a0_5] 23 (0, 0)) (by (with_reducible repeat (first | refine blk_drewN ?_ _ | refine blk_drew ?_ | refine blk_alloc ?_ _)); exact BK374.out) hb); have n3_ := Aside0.mk (blk_below (g := gb387) (o := .cells #[.int .i64 t380, .int .i64 t381, .int .i64 t382, .int .i64 t383, .int .i64 t384, .string t385] 23 (0, 0)) (by (with_reducible repeat (first | refine blk_drewN ?_ _ | refine blk_drew ?_ | refine blk_alloc ?_ _)); exact BK387.out) hb); have n4_ := Aside0.mk (below_step (by repeat (first | (with_reducible first | exact HB.out | apply below_alloc | apply pw_below_drewN | apply below_drew1 | refine below_set ?_ GE374.out | refine below_set ?_ GE387.out) | exact HB.out)) hb); clear HO378; clear HO393; clear BK374; clear BK387; clear HB; have HO378 := n0_; have HO393 := n1_; have BK374 := n2_; have BK387 := n3_; have HB := n4_; clear n0_ n1_ n2_ n3_ n4_; (try clear hb); (try clear hb2); (try clear hk); (try clear hi)) | ((with_reducible refine gate_dst (N := 12) rfl ?_); (try (refine gate_guard (by rfl) ?_; dsimp only)); refine box_event ?hg (N := 12) ?hd (cs := #[.int .i64 0, .int .i64 0, .int .i64 0, .int .i64 0, .int .i64 0, .string (⟨#[]⟩ : ByteArray)]) (t := 23) ?hr ?_; (case hd => rfl); (case hg => rfl); (case hr => first | (go_simp; done) | (go_simp; rfl)); intro gb401 hg w29 hbox hb; have n0_ := Aside0.mk (Kd.R_below (by (with_reducible repeat (first | apply Kd.R_alloc | apply Kd.R_drewN | apply Kd.R_drew)); exact HO378.out) hb); have n1_ := Aside0.mk (Kd.R_below (by (with_reducible repeat (first | apply Kd.R_alloc | apply Kd.R_drewN | apply Kd.R_drew)); exact HO393.out) hb); have n2_ := Aside0.mk (blk_below (g := gb374) (o := .cells #[.int .i64 a0_0, .int .i64 a0_1, .int .i64 a0_2, .int .i64 a0_3, .int .i64 a0_4, .string a0_5] 23 (0, 0)) (by (with_reducible repeat (first | refine blk_drewN ?_ _ | refine blk_drew ?_ | refine blk_alloc ?_ _)); exact BK374.out) hb); have n3_ := Aside0.mk (blk_below (g := gb387) (o := .cells #[.int .i64 t380, .int .i64 t381, .int .i64 t382, .int .i64 t383, .int .i64 t384, .string t385] 23 (0, 0)) (by (with_reducible repeat (first | refine blk_drewN ?_ _ | refine blk_drew ?_ | refine blk_alloc ?_ _)); exact BK387.out) hb); have n4_ := Aside0.mk (below_step (by repeat (first | (with_reducible first | exact HB.out | apply below_alloc | apply pw_below_drewN | apply below_drew1 | refine below_set ?_ GE374.out | refine below_set ?_ GE387.out) | exact HB.out)) hb); have n5_ := Aside0.mk (hbox); have n6_ := Aside0.mk ((by rw [hg]; exact (below_size (by repeat (first | (with_reducible first | exact HB.out | apply below_alloc | apply pw_below_drewN | apply below_drew1 | refine below_set ?_ GE374.out | refine below_set ?_ GE387.out) | exact HB.out))) : w.heap.size ≤ gb401)); have n7_ := Aside0.mk ((by rw [hg]; exact (below_size (by repeat (first | (with_reducible first | exact HB.out | apply below_alloc | apply pw_below_drewN | apply below_drew1 | refine below_set ?_ GE374.out | refine below_set ?_ GE387.out) | exact HB.out))) : w.heap.size ≤ gb401)); have n8_ := Aside0.mk ((by rw [hg]; exact Nat.ne_of_lt (blk_lt (g := gb374) (o := .cells #[.int .i64 a0_0, .int .i64 a0_1, .int .i64 a0_2, .int .i64 a0_3, .int .i64 a0_4, .string a0_5] 23 (0, 0)) (by (with_reducible repeat (first | refine blk_drewN ?_ _ | refine blk_drew ?_ | refine blk_alloc ?_ _)); exact BK374.out)) : gb374 ≠ gb401)); have n9_ := Aside0.mk ((by rw [hg]; exact Nat.ne_of_gt (blk_lt (g := gb374) (o := .cells #[.int .i64 a0_0, .int .i64 a0_1, .int .i64 a0_2, .int .i64 a0_3, .int .i64 a0_4, .string a0_5] 23 (0, 0)) (by (with_reducible repeat (first | refine blk_drewN ?_ _ | refine blk_drew ?_ | refine blk_alloc ?_ _)); exact BK374.out)) : gb401 ≠ gb374)); have n10_ := Aside0.mk ((by rw [hg]; exact Nat.ne_of_lt (blk_lt (g := gb387) (o := .cells #[.int .i64 t380, .int .i64 t381, .int .i64 t382, .int .i64 t383, .int .i64 t384, .string t385] 23 (0, 0)) (by (with_reducible repeat (first | refine blk_drewN ?_ _ | refine blk_drew ?_ | refine blk_alloc ?_ _)); exact BK387.out)) : gb387 ≠ gb401)); have n11_ := Aside0.mk ((by rw [hg]; exact Nat.ne_of_gt (blk_lt (g := gb387) (o := .cells #[.int .i64 t380, .int .i64 t381, .int .i64 t382, .int .i64 t383, .int .i64 t384, .string t385] 23 (0, 0)) (by (with_reducible repeat (first | refine blk_drewN ?_ _ | refine blk_drew ?_ | refine blk_alloc ?_ _)); exact BK387.out)) : gb401 ≠ gb387)); clear HO378; clear HO393; clear BK374; clear BK387; clear HB; have HO378 := n0_; have HO393 := n1_; have BK374 := n2_; have BK387 := n3_; have HB := n4_; have BK401 := n5_; have GW401 := n6_; have GE401 := n7_; have NB374_401 := n8_; have NB401_374 := n9_; have NB387_401 := n10_; have NB401_387 := n11_; clear n0_ n1_ n2_ n3_ n4_ n5_ n6_ n7_ n8_ n9_ n10_ n11_; clear hb hbox hg; have hnb30 := NB401_374.out; have hnc30 := NB374_401.out; have hnb31 := NB401_387.out; have hnc31 := NB387_401.out; have hcz32_0 : w29.cell? ⟨gb401, 0, none⟩ = some (.int .i64 0) := (blk_cell BK401.out 0).trans rfl; have hcz32_1 : w29.cell? ⟨gb401, 1, none⟩ = some (.int .i64 0) := (blk_cell BK401.out 1).trans rfl; have hcz32_2 : w29.cell? ⟨gb401, 2, none⟩ = some (.int .i64 0) := (blk_cell BK401.out 2).trans rfl; have hcz32_3 : w29.cell? ⟨gb401, 3, none⟩ = some (.int .i64 0) := (blk_cell BK401.out 3).trans rfl; have hcz32_4 : w29.cell? ⟨gb401, 4, none⟩ = some (.int .i64 0) := (blk_cell BK401.out 4).trans rfl; have hcz32_5 : w29.cell? ⟨gb401, 5, none⟩ = some (.string (⟨#[]⟩ : ByteArray)) := (blk_cell BK401.out 5).trans rfl; have hfz32_0 := blk_frozen BK401.out 0; have hfz32_1 := blk_frozen BK401.out 1; have hfz32_2 := blk_frozen BK401.out 2; have hfz32_3 := blk_frozen BK401.out 3; have hfz32_4 := blk_frozen BK401.out 4; have hfz32_5 := blk_frozen BK401.out 5))
              (try simp only [Act.put, List.setIfInBounds_toArray, List.set_cons_zero, List.set_cons_succ])
              go_cut [60] (fun v60 wc => ∃ (kq : Nat) (x60_16 : Bool), v60 = .bool x60_16 ∧ Aside0 (colloquylaw04_CommandBack.j1 kq a1 t376 x60_16 = some r) ∧ Aside0 (kq ≤ kj4) ∧ Aside0 (Kd.R (Kd.int .u8) 5 wc w.heap.size (fun _ => True) (.slice Ao20 t376.length co20) t376) ∧ Aside0 (wc.heap[gb374]? = some (.cells #[.int .i64 a0_0, .int .i64 a0_1, .int .i64 a0_2, .int .i64 a0_3, .int .i64 a0_4, .string a0_5] 23 (0, 0))) ∧ Aside0 (wc.heap[gb387]? = some (.cells #[.int .i64 t380, .int .i64 t381, .int .i64 t382, .int .i64 t383, .int .i64 t384, .string t385] 23 (0, 0))) ∧ Aside0 (wc.heap[gb401]? = some (.cells #[.int .i64 t394, .int .i64 t395, .int .i64 t396, .int .i64 t397, .int .i64 t398, .string t399] 23 (0, 0))) ∧ Aside0 (Below w.heap.size w wc))
              case first =>
                have H := HC17.out
                clear HC17
                by_cases c33 : t386 = 0
                · rw [if_pos c33] at H
                  have c33b0 : (t386 == 0) = true := beq_iff_eq.mpr c33
                  have c33b1 : (t386 != 0) = false := bne_eq_false_iff_eq.mpr c33
                  clear c33
                  (first | rw [c33b0] | (simp only [i64_w, i32_w]; rw [c33b0]) | skip)
                  by_cases c34 : (!(t380 == a0_0) || (!(t381 == a0_1) || (!(t382 == a0_2) || (!(t383 == a0_3) || (!(t384 == a0_4) || (!(t385.toList == a0_5.toList))))))) = true
                  · rw [if_pos c34] at H
                    have c34b0 : (!(t380 == a0_0) || (!(t381 == a0_1) || (!(t382 == a0_2) || (!(t383 == a0_3) || (!(t384 == a0_4) || (!(t385.toList == a0_5.toList))))))) = true := c34
                    clear c34
                    have H' := Aside0.mk H
                    clear H
                    have hnb35 := NB387_374.out
                    have hnc35 := NB374_387.out
                    have hnb36 := NB387_401.out
                    have hnc36 := NB401_387.out
                    have hcz37_0 : w29.cell? ⟨gb387, 0, none⟩ = some (.int .i64 t380) := (blk_cell BK387.out 0).trans rfl
                    have hcz37_1 : w29.cell? ⟨gb387, 1, none⟩ = some (.int .i64 t381) := (blk_cell BK387.out 1).trans rfl
                    have hcz37_2 : w29.cell? ⟨gb387, 2, none⟩ = some (.int .i64 t382) := (blk_cell BK387.out 2).trans rfl
                    have hcz37_3 : w29.cell? ⟨gb387, 3, none⟩ = some (.int .i64 t383) := (blk_cell BK387.out 3).trans rfl
                    have hcz37_4 : w29.cell? ⟨gb387, 4, none⟩ = some (.int .i64 t384) := (blk_cell BK387.out 4).trans rfl
                    have hcz37_5 : w29.cell? ⟨gb387, 5, none⟩ = some (.string t385) := (blk_cell BK387.out 5).trans rfl
                    have hfz37_0 := blk_frozen BK387.out 0
                    have hfz37_1 := blk_frozen BK387.out 1
                    have hfz37_2 := blk_frozen BK387.out 2
                    have hfz37_3 := blk_frozen BK387.out 3
                    have hfz37_4 := blk_frozen BK387.out 4
                    have hfz37_5 := blk_frozen BK387.out 5
                    have hnb38 := NB374_401.out
                    have hnc38 := NB401_374.out
                    have hcz39_0 : w29.cell? ⟨gb374, 0, none⟩ = some (.int .i64 a0_0) := (blk_cell BK374.out 0).trans rfl
                    have hcz39_1 : w29.cell? ⟨gb374, 1, none⟩ = some (.int .i64 a0_1) := (blk_cell BK374.out 1).trans rfl
                    have hcz39_2 : w29.cell? ⟨gb374, 2, none⟩ = some (.int .i64 a0_2) := (blk_cell BK374.out 2).trans rfl
                    have hcz39_3 : w29.cell? ⟨gb374, 3, none⟩ = some (.int .i64 a0_3) := (blk_cell BK374.out 3).trans rfl
                    have hcz39_4 : w29.cell? ⟨gb374, 4, none⟩ = some (.int .i64 a0_4) := (blk_cell BK374.out 4).trans rfl
                    have hcz39_5 : w29.cell? ⟨gb374, 5, none⟩ = some (.string a0_5) := (blk_cell BK374.out 5).trans rfl
                    have hfz39_0 := blk_frozen BK374.out 0
                    have hfz39_1 := blk_frozen BK374.out 1
                    have hfz39_2 := blk_frozen BK374.out 2
                    have hfz39_3 := blk_frozen BK374.out 3
                    have hfz39_4 := blk_frozen BK374.out 4
                    have hfz39_5 := blk_frozen BK374.out 5
                    go_wp2
                    go_meet
                    case rel => exact ⟨_, (true), (by first | rfl | (simp; done) | (simp [*]; done)), H', ⟨by have := HJ4.out; first | omega | exact Nat.le_refl _⟩, ⟨by (with_reducible repeat (first | apply Kd.R_alloc | apply Kd.R_drewN | apply Kd.R_drew)); exact Kd.R_mono (Kd.R_far (p := ⟨gb401, 5, none⟩) (Kd.R_far (p := ⟨gb401, 4, none⟩) (Kd.R_far (p := ⟨gb401, 3, none⟩) (Kd.R_far (p := ⟨gb401, 2, none⟩) (Kd.R_far (p := ⟨gb401, 1, none⟩) (Kd.R_far (p := ⟨gb401, 0, none⟩) (Kd.R_types HO378.out BK401.out (by decide)) (fun _ hk => hk.2) (.int .i64 t394)) (fun _ hk => hk.2) (.int .i64 t395)) (fun _ hk => hk.2) (.int .i64 t396)) (fun _ hk => hk.2) (.int .i64 t397)) (fun _ hk => hk.2) (.int .i64 t398)) (fun _ hk => hk.2) (.string t399)) (fun _ hk => trivial)⟩, ⟨by (with_reducible repeat (first | refine blk_drewN ?_ _ | refine blk_drew ?_ | refine blk_alloc ?_ _)); refine blk_far ?_ NB374_401.out _; (with_reducible repeat (first | refine blk_drewN ?_ _ | refine blk_drew ?_ | refine blk_alloc ?_ _)); refine blk_far ?_ NB374_401.out _; (with_reducible repeat (first | refine blk_drewN ?_ _ | refine blk_drew ?_ | refine blk_alloc ?_ _)); refine blk_far ?_ NB374_401.out _; (with_reducible repeat (first | refine blk_drewN ?_ _ | refine blk_drew ?_ | refine blk_alloc ?_ _)); refine blk_far ?_ NB374_401.out _; (with_reducible repeat (first | refine blk_drewN ?_ _ | refine blk_drew ?_ | refine blk_alloc ?_ _)); refine blk_far ?_ NB374_401.out _; (with_reducible repeat (first | refine blk_drewN ?_ _ | refine blk_drew ?_ | refine blk_alloc ?_ _)); refine blk_far ?_ NB374_401.out _; (with_reducible repeat (first | refine blk_drewN ?_ _ | refine blk_drew ?_ | refine blk_alloc ?_ _)); exact BK374.out⟩, ⟨by (with_reducible repeat (first | refine blk_drewN ?_ _ | refine blk_drew ?_ | refine blk_alloc ?_ _)); refine blk_far ?_ NB387_401.out _; (with_reducible repeat (first | refine blk_drewN ?_ _ | refine blk_drew ?_ | refine blk_alloc ?_ _)); refine blk_far ?_ NB387_401.out _; (with_reducible repeat (first | refine blk_drewN ?_ _ | refine blk_drew ?_ | refine blk_alloc ?_ _)); refine blk_far ?_ NB387_401.out _; (with_reducible repeat (first | refine blk_drewN ?_ _ | refine blk_drew ?_ | refine blk_alloc ?_ _)); refine blk_far ?_ NB387_401.out _; (with_reducible repeat (first | refine blk_drewN ?_ _ | refine blk_drew ?_ | refine blk_alloc ?_ _)); refine blk_far ?_ NB387_401.out _; (with_reducible repeat (first | refine blk_drewN ?_ _ | refine blk_drew ?_ | refine blk_alloc ?_ _)); refine blk_far ?_ NB387_401.out _; (with_reducible repeat (first | refine blk_drewN ?_ _ | refine blk_drew ?_ | refine blk_alloc ?_ _)); exact BK387.out⟩, ⟨by (with_reducible repeat (first | refine blk_drewN ?_ _ | refine blk_drew ?_ | refine blk_alloc ?_ _)); refine blk_put (cs := #[.int .i64 t394, .int .i64 t395, .int .i64 t396, .int .i64 t397, .int .i64 t398, .string (⟨#[]⟩ : ByteArray)]) ?_ 5 _ rfl; (with_reducible repeat (first | refine blk_drewN ?_ _ | refine blk_drew ?_ | refine blk_alloc ?_ _)); refine blk_put (cs := #[.int .i64 t394, .int .i64 t395, .int .i64 t396, .int .i64 t397, .int .i64 0, .string (⟨#[]⟩ : ByteArray)]) ?_ 4 _ rfl; (with_reducible repeat (first | refine blk_drewN ?_ _ | refine blk_drew ?_ | refine blk_alloc ?_ _)); refine blk_put (cs := #[.int .i64 t394, .int .i64 t395, .int .i64 t396, .int .i64 0, .int .i64 0, .string (⟨#[]⟩ : ByteArray)]) ?_ 3 _ rfl; (with_reducible repeat (first | refine blk_drewN ?_ _ | refine blk_drew ?_ | refine blk_alloc ?_ _)); refine blk_put (cs := #[.int .i64 t394, .int .i64 t395, .int .i64 0, .int .i64 0, .int .i64 0, .string (⟨#[]⟩ : ByteArray)]) ?_ 2 _ rfl; (with_reducible repeat (first | refine blk_drewN ?_ _ | refine blk_drew ?_ | refine blk_alloc ?_ _)); refine blk_put (cs := #[.int .i64 t394, .int .i64 0, .int .i64 0, .int .i64 0, .int .i64 0, .string (⟨#[]⟩ : ByteArray)]) ?_ 1 _ rfl; (with_reducible repeat (first | refine blk_drewN ?_ _ | refine blk_drew ?_ | refine blk_alloc ?_ _)); refine blk_put (cs := #[.int .i64 0, .int .i64 0, .int .i64 0, .int .i64 0, .int .i64 0, .string (⟨#[]⟩ : ByteArray)]) ?_ 0 _ rfl; (with_reducible repeat (first | refine blk_drewN ?_ _ | refine blk_drew ?_ | refine blk_alloc ?_ _)); exact BK401.out⟩, ⟨by repeat (first | (with_reducible first | exact HB.out | apply below_alloc | apply pw_below_drewN | apply below_drew1 | refine below_set ?_ GE374.out | refine below_set ?_ GE387.out | refine below_set ?_ GE401.out) | exact HB.out)⟩⟩
                  · rw [if_neg c34] at H
                    have c34b0 : (!(t380 == a0_0) || (!(t381 == a0_1) || (!(t382 == a0_2) || (!(t383 == a0_3) || (!(t384 == a0_4) || (!(t385.toList == a0_5.toList))))))) = false := by simpa using c34
                    clear c34
                    have H' := Aside0.mk H
                    clear H
                    have hnb40 := NB387_374.out
                    have hnc40 := NB374_387.out
                    have hnb41 := NB387_401.out
                    have hnc41 := NB401_387.out
                    have hcz42_0 : w29.cell? ⟨gb387, 0, none⟩ = some (.int .i64 t380) := (blk_cell BK387.out 0).trans rfl
                    have hcz42_1 : w29.cell? ⟨gb387, 1, none⟩ = some (.int .i64 t381) := (blk_cell BK387.out 1).trans rfl
                    have hcz42_2 : w29.cell? ⟨gb387, 2, none⟩ = some (.int .i64 t382) := (blk_cell BK387.out 2).trans rfl
                    have hcz42_3 : w29.cell? ⟨gb387, 3, none⟩ = some (.int .i64 t383) := (blk_cell BK387.out 3).trans rfl
                    have hcz42_4 : w29.cell? ⟨gb387, 4, none⟩ = some (.int .i64 t384) := (blk_cell BK387.out 4).trans rfl
                    have hcz42_5 : w29.cell? ⟨gb387, 5, none⟩ = some (.string t385) := (blk_cell BK387.out 5).trans rfl
                    have hfz42_0 := blk_frozen BK387.out 0
                    have hfz42_1 := blk_frozen BK387.out 1
                    have hfz42_2 := blk_frozen BK387.out 2
                    have hfz42_3 := blk_frozen BK387.out 3
                    have hfz42_4 := blk_frozen BK387.out 4
                    have hfz42_5 := blk_frozen BK387.out 5
                    have hnb43 := NB374_401.out
                    have hnc43 := NB401_374.out
                    have hcz44_0 : w29.cell? ⟨gb374, 0, none⟩ = some (.int .i64 a0_0) := (blk_cell BK374.out 0).trans rfl
                    have hcz44_1 : w29.cell? ⟨gb374, 1, none⟩ = some (.int .i64 a0_1) := (blk_cell BK374.out 1).trans rfl
                    have hcz44_2 : w29.cell? ⟨gb374, 2, none⟩ = some (.int .i64 a0_2) := (blk_cell BK374.out 2).trans rfl
                    have hcz44_3 : w29.cell? ⟨gb374, 3, none⟩ = some (.int .i64 a0_3) := (blk_cell BK374.out 3).trans rfl
                    have hcz44_4 : w29.cell? ⟨gb374, 4, none⟩ = some (.int .i64 a0_4) := (blk_cell BK374.out 4).trans rfl
                    have hcz44_5 : w29.cell? ⟨gb374, 5, none⟩ = some (.string a0_5) := (blk_cell BK374.out 5).trans rfl
                    have hfz44_0 := blk_frozen BK374.out 0
                    have hfz44_1 := blk_frozen BK374.out 1
                    have hfz44_2 := blk_frozen BK374.out 2
                    have hfz44_3 := blk_frozen BK374.out 3
                    have hfz44_4 := blk_frozen BK374.out 4
                    have hfz44_5 := blk_frozen BK374.out 5
                    go_wp2
                    go_meet
                    case rel => exact ⟨_, ((t400 == 0)), (by first | rfl | (simp; done) | (simp [*]; done)), H', ⟨by have := HJ4.out; first | omega | exact Nat.le_refl _⟩, ⟨by (with_reducible repeat (first | apply Kd.R_alloc | apply Kd.R_drewN | apply Kd.R_drew)); exact Kd.R_mono (Kd.R_far (p := ⟨gb401, 5, none⟩) (Kd.R_far (p := ⟨gb401, 4, none⟩) (Kd.R_far (p := ⟨gb401, 3, none⟩) (Kd.R_far (p := ⟨gb401, 2, none⟩) (Kd.R_far (p := ⟨gb401, 1, none⟩) (Kd.R_far (p := ⟨gb401, 0, none⟩) (Kd.R_types HO378.out BK401.out (by decide)) (fun _ hk => hk.2) (.int .i64 t394)) (fun _ hk => hk.2) (.int .i64 t395)) (fun _ hk => hk.2) (.int .i64 t396)) (fun _ hk => hk.2) (.int .i64 t397)) (fun _ hk => hk.2) (.int .i64 t398)) (fun _ hk => hk.2) (.string t399)) (fun _ hk => trivial)⟩, ⟨by (with_reducible repeat (first | refine blk_drewN ?_ _ | refine blk_drew ?_ | refine blk_alloc ?_ _)); refine blk_far ?_ NB374_401.out _; (with_reducible repeat (first | refine blk_drewN ?_ _ | refine blk_drew ?_ | refine blk_alloc ?_ _)); refine blk_far ?_ NB374_401.out _; (with_reducible repeat (first | refine blk_drewN ?_ _ | refine blk_drew ?_ | refine blk_alloc ?_ _)); refine blk_far ?_ NB374_401.out _; (with_reducible repeat (first | refine blk_drewN ?_ _ | refine blk_drew ?_ | refine blk_alloc ?_ _)); refine blk_far ?_ NB374_401.out _; (with_reducible repeat (first | refine blk_drewN ?_ _ | refine blk_drew ?_ | refine blk_alloc ?_ _)); refine blk_far ?_ NB374_401.out _; (with_reducible repeat (first | refine blk_drewN ?_ _ | refine blk_drew ?_ | refine blk_alloc ?_ _)); refine blk_far ?_ NB374_401.out _; (with_reducible repeat (first | refine blk_drewN ?_ _ | refine blk_drew ?_ | refine blk_alloc ?_ _)); exact BK374.out⟩, ⟨by (with_reducible repeat (first | refine blk_drewN ?_ _ | refine blk_drew ?_ | refine blk_alloc ?_ _)); refine blk_far ?_ NB387_401.out _; (with_reducible repeat (first | refine blk_drewN ?_ _ | refine blk_drew ?_ | refine blk_alloc ?_ _)); refine blk_far ?_ NB387_401.out _; (with_reducible repeat (first | refine blk_drewN ?_ _ | refine blk_drew ?_ | refine blk_alloc ?_ _)); refine blk_far ?_ NB387_401.out _; (with_reducible repeat (first | refine blk_drewN ?_ _ | refine blk_drew ?_ | refine blk_alloc ?_ _)); refine blk_far ?_ NB387_401.out _; (with_reducible repeat (first | refine blk_drewN ?_ _ | refine blk_drew ?_ | refine blk_alloc ?_ _)); refine blk_far ?_ NB387_401.out _; (with_reducible repeat (first | refine blk_drewN ?_ _ | refine blk_drew ?_ | refine blk_alloc ?_ _)); refine blk_far ?_ NB387_401.out _; (with_reducible repeat (first | refine blk_drewN ?_ _ | refine blk_drew ?_ | refine blk_alloc ?_ _)); exact BK387.out⟩, ⟨by (with_reducible repeat (first | refine blk_drewN ?_ _ | refine blk_drew ?_ | refine blk_alloc ?_ _)); refine blk_put (cs := #[.int .i64 t394, .int .i64 t395, .int .i64 t396, .int .i64 t397, .int .i64 t398, .string (⟨#[]⟩ : ByteArray)]) ?_ 5 _ rfl; (with_reducible repeat (first | refine blk_drewN ?_ _ | refine blk_drew ?_ | refine blk_alloc ?_ _)); refine blk_put (cs := #[.int .i64 t394, .int .i64 t395, .int .i64 t396, .int .i64 t397, .int .i64 0, .string (⟨#[]⟩ : ByteArray)]) ?_ 4 _ rfl; (with_reducible repeat (first | refine blk_drewN ?_ _ | refine blk_drew ?_ | refine blk_alloc ?_ _)); refine blk_put (cs := #[.int .i64 t394, .int .i64 t395, .int .i64 t396, .int .i64 0, .int .i64 0, .string (⟨#[]⟩ : ByteArray)]) ?_ 3 _ rfl; (with_reducible repeat (first | refine blk_drewN ?_ _ | refine blk_drew ?_ | refine blk_alloc ?_ _)); refine blk_put (cs := #[.int .i64 t394, .int .i64 t395, .int .i64 0, .int .i64 0, .int .i64 0, .string (⟨#[]⟩ : ByteArray)]) ?_ 2 _ rfl; (with_reducible repeat (first | refine blk_drewN ?_ _ | refine blk_drew ?_ | refine blk_alloc ?_ _)); refine blk_put (cs := #[.int .i64 t394, .int .i64 0, .int .i64 0, .int .i64 0, .int .i64 0, .string (⟨#[]⟩ : ByteArray)]) ?_ 1 _ rfl; (with_reducible repeat (first | refine blk_drewN ?_ _ | refine blk_drew ?_ | refine blk_alloc ?_ _)); refine blk_put (cs := #[.int .i64 0, .int .i64 0, .int .i64 0, .int .i64 0, .int .i64 0, .string (⟨#[]⟩ : ByteArray)]) ?_ 0 _ rfl; (with_reducible repeat (first | refine blk_drewN ?_ _ | refine blk_drew ?_ | refine blk_alloc ?_ _)); exact BK401.out⟩, ⟨by repeat (first | (with_reducible first | exact HB.out | apply below_alloc | apply pw_below_drewN | apply below_drew1 | refine below_set ?_ GE374.out | refine below_set ?_ GE387.out | refine below_set ?_ GE401.out) | exact HB.out)⟩⟩
                · rw [if_neg c33] at H
                  have c33b0 : (t386 == 0) = false := beq_eq_false_iff_ne.mpr c33
                  have c33b1 : (t386 != 0) = true := bne_iff_ne.mpr c33
                  (first | rw [c33b0] | (simp only [i64_w, i32_w]; rw [c33b0]) | skip)
                  have H' := Aside0.mk H
                  clear H
                  go_wp2
                  go_meet
                  case rel => exact ⟨_, (true), (by first | rfl | (simp; done) | (simp [*]; done)), H', ⟨by have := HJ4.out; first | omega | exact Nat.le_refl _⟩, ⟨by (with_reducible repeat (first | apply Kd.R_alloc | apply Kd.R_drewN | apply Kd.R_drew)); exact Kd.R_mono (Kd.R_far (p := ⟨gb401, 5, none⟩) (Kd.R_far (p := ⟨gb401, 4, none⟩) (Kd.R_far (p := ⟨gb401, 3, none⟩) (Kd.R_far (p := ⟨gb401, 2, none⟩) (Kd.R_far (p := ⟨gb401, 1, none⟩) (Kd.R_far (p := ⟨gb401, 0, none⟩) (Kd.R_types HO378.out BK401.out (by decide)) (fun _ hk => hk.2) (.int .i64 t394)) (fun _ hk => hk.2) (.int .i64 t395)) (fun _ hk => hk.2) (.int .i64 t396)) (fun _ hk => hk.2) (.int .i64 t397)) (fun _ hk => hk.2) (.int .i64 t398)) (fun _ hk => hk.2) (.string t399)) (fun _ hk => trivial)⟩, ⟨by (with_reducible repeat (first | refine blk_drewN ?_ _ | refine blk_drew ?_ | refine blk_alloc ?_ _)); refine blk_far ?_ NB374_401.out _; (with_reducible repeat (first | refine blk_drewN ?_ _ | refine blk_drew ?_ | refine blk_alloc ?_ _)); refine blk_far ?_ NB374_401.out _; (with_reducible repeat (first | refine blk_drewN ?_ _ | refine blk_drew ?_ | refine blk_alloc ?_ _)); refine blk_far ?_ NB374_401.out _; (with_reducible repeat (first | refine blk_drewN ?_ _ | refine blk_drew ?_ | refine blk_alloc ?_ _)); refine blk_far ?_ NB374_401.out _; (with_reducible repeat (first | refine blk_drewN ?_ _ | refine blk_drew ?_ | refine blk_alloc ?_ _)); refine blk_far ?_ NB374_401.out _; (with_reducible repeat (first | refine blk_drewN ?_ _ | refine blk_drew ?_ | refine blk_alloc ?_ _)); refine blk_far ?_ NB374_401.out _; (with_reducible repeat (first | refine blk_drewN ?_ _ | refine blk_drew ?_ | refine blk_alloc ?_ _)); exact BK374.out⟩, ⟨by (with_reducible repeat (first | refine blk_drewN ?_ _ | refine blk_drew ?_ | refine blk_alloc ?_ _)); refine blk_far ?_ NB387_401.out _; (with_reducible repeat (first | refine blk_drewN ?_ _ | refine blk_drew ?_ | refine blk_alloc ?_ _)); refine blk_far ?_ NB387_401.out _; (with_reducible repeat (first | refine blk_drewN ?_ _ | refine blk_drew ?_ | refine blk_alloc ?_ _)); refine blk_far ?_ NB387_401.out _; (with_reducible repeat (first | refine blk_drewN ?_ _ | refine blk_drew ?_ | refine blk_alloc ?_ _)); refine blk_far ?_ NB387_401.out _; (with_reducible repeat (first | refine blk_drewN ?_ _ | refine blk_drew ?_ | refine blk_alloc ?_ _)); refine blk_far ?_ NB387_401.out _; (with_reducible repeat (first | refine blk_drewN ?_ _ | refine blk_drew ?_ | refine blk_alloc ?_ _)); refine blk_far ?_ NB387_401.out _; (with_reducible repeat (first | refine blk_drewN ?_ _ | refine blk_drew ?_ | refine blk_alloc ?_ _)); exact BK387.out⟩, ⟨by (with_reducible repeat (first | refine blk_drewN ?_ _ | refine blk_drew ?_ | refine blk_alloc ?_ _)); refine blk_put (cs := #[.int .i64 t394, .int .i64 t395, .int .i64 t396, .int .i64 t397, .int .i64 t398, .string (⟨#[]⟩ : ByteArray)]) ?_ 5 _ rfl; (with_reducible repeat (first | refine blk_drewN ?_ _ | refine blk_drew ?_ | refine blk_alloc ?_ _)); refine blk_put (cs := #[.int .i64 t394, .int .i64 t395, .int .i64 t396, .int .i64 t397, .int .i64 0, .string (⟨#[]⟩ : ByteArray)]) ?_ 4 _ rfl; (with_reducible repeat (first | refine blk_drewN ?_ _ | refine blk_drew ?_ | refine blk_alloc ?_ _)); refine blk_put (cs := #[.int .i64 t394, .int .i64 t395, .int .i64 t396, .int .i64 0, .int .i64 0, .string (⟨#[]⟩ : ByteArray)]) ?_ 3 _ rfl; (with_reducible repeat (first | refine blk_drewN ?_ _ | refine blk_drew ?_ | refine blk_alloc ?_ _)); refine blk_put (cs := #[.int .i64 t394, .int .i64 t395, .int .i64 0, .int .i64 0, .int .i64 0, .string (⟨#[]⟩ : ByteArray)]) ?_ 2 _ rfl; (with_reducible repeat (first | refine blk_drewN ?_ _ | refine blk_drew ?_ | refine blk_alloc ?_ _)); refine blk_put (cs := #[.int .i64 t394, .int .i64 0, .int .i64 0, .int .i64 0, .int .i64 0, .string (⟨#[]⟩ : ByteArray)]) ?_ 1 _ rfl; (with_reducible repeat (first | refine blk_drewN ?_ _ | refine blk_drew ?_ | refine blk_alloc ?_ _)); refine blk_put (cs := #[.int .i64 0, .int .i64 0, .int .i64 0, .int .i64 0, .int .i64 0, .string (⟨#[]⟩ : ByteArray)]) ?_ 0 _ rfl; (with_reducible repeat (first | refine blk_drewN ?_ _ | refine blk_drew ?_ | refine blk_alloc ?_ _)); exact BK401.out⟩, ⟨by repeat (first | (with_reducible first | exact HB.out | apply below_alloc | apply pw_below_drewN | apply below_drew1 | refine below_set ?_ GE374.out | refine below_set ?_ GE387.out | refine below_set ?_ GE401.out) | exact HB.out)⟩⟩
              case rest =>
                clear HC17
                try clear c1
                try clear c2
                try clear p2
                try clear c3
                try clear c4
                try clear c7
                try clear c8
                try clear c9
                try clear c10
                try clear c11
                try clear c12
                try clear c12b0
                try clear c12b1
                try clear c14
                try clear c15
                try clear c16
                try clear c23
                try clear c30
                try clear c31
                try clear c33
                try clear c33b0
                try clear c33b1
                try clear c34
                try clear c34b0
                try clear c35
                try clear c36
                try clear c38
                try clear c40
                try clear c41
                try clear c43
                try clear hcz18_0
                try clear hcz18_1
                try clear hcz18_2
                try clear hcz18_3
                try clear hcz18_4
                try clear hcz18_5
                try clear hcz24_0
                try clear hcz24_1
                try clear hcz24_2
                try clear hcz24_3
                try clear hcz24_4
                try clear hcz24_5
                try clear hcz32_0
                try clear hcz32_1
                try clear hcz32_2
                try clear hcz32_3
                try clear hcz32_4
                try clear hcz32_5
                try clear hcz37_0
                try clear hcz37_1
                try clear hcz37_2
                try clear hcz37_3
                try clear hcz37_4
                try clear hcz37_5
                try clear hcz39_0
                try clear hcz39_1
                try clear hcz39_2
                try clear hcz39_3
                try clear hcz39_4
                try clear hcz39_5
                try clear hcz42_0
                try clear hcz42_1
                try clear hcz42_2
                try clear hcz42_3
                try clear hcz42_4
                try clear hcz42_5
                try clear hcz44_0
                try clear hcz44_1
                try clear hcz44_2
                try clear hcz44_3
                try clear hcz44_4
                try clear hcz44_5
                try clear hcz9_0
                try clear hcz9_1
                try clear hcz9_2
                try clear hcz9_3
                try clear hcz9_4
                try clear hcz9_5
                try clear hfz18_0
                try clear hfz18_1
                try clear hfz18_2
                try clear hfz18_3
                try clear hfz18_4
                try clear hfz18_5
                try clear hfz24_0
                try clear hfz24_1
                try clear hfz24_2
                try clear hfz24_3
                try clear hfz24_4
                try clear hfz24_5
                try clear hfz32_0
                try clear hfz32_1
                try clear hfz32_2
                try clear hfz32_3
                try clear hfz32_4
                try clear hfz32_5
                try clear hfz37_0
                try clear hfz37_1
                try clear hfz37_2
                try clear hfz37_3
                try clear hfz37_4
                try clear hfz37_5
                try clear hfz39_0
                try clear hfz39_1
                try clear hfz39_2
                try clear hfz39_3
                try clear hfz39_4
                try clear hfz39_5
                try clear hfz42_0
                try clear hfz42_1
                try clear hfz42_2
                try clear hfz42_3
                try clear hfz42_4
                try clear hfz42_5
                try clear hfz44_0
                try clear hfz44_1
                try clear hfz44_2
                try clear hfz44_3
                try clear hfz44_4
                try clear hfz44_5
                try clear hfz9_0
                try clear hfz9_1
                try clear hfz9_2
                try clear hfz9_3
                try clear hfz9_4
                try clear hfz9_5
                try clear p2
                obtain ⟨kq, x60_16, rfl, HA, HJ16, HO_8, BK374, BK387, BK401, HB⟩ := hcut
                cases kq with
                | zero => exact absurd HA.out (by simp [colloquylaw04_CommandBack.j1])
                | succ kj16 =>
                  have H := HA.out
                  clear HA
                  simp only [colloquylaw04_CommandBack.j1] at H
                  by_cases c45 : x60_16 = true
                  · subst c45
                    have H1 : (some false) = some r := by rw [if_pos rfl] at H; exact H
                    clear H
                    have H := H1
                    clear H1
                    obtain rfl := Option.some.inj H
                    go_wp2
                    go_ret
                    exact ⟨by first | rfl | (simp [errW_none, errW_some] <;> rfl) | (simp [*, errW_none, errW_some] <;> rfl), by repeat (first | (with_reducible first | exact HB.out | apply below_alloc | apply pw_below_drewN | apply below_drew1 | refine below_set ?_ GE374.out | refine below_set ?_ GE387.out | refine below_set ?_ GE401.out) | exact HB.out)⟩
                  · replace c45 := Bool.eq_false_iff.mpr c45
                    subst c45
                    have H1 : (if a1 < 0 then (some true) else (if a1 ≥ (t376.length : Int) then (some true) else (if 0 ≤ a1 then (if a1 ≤ (t376.length : Int) then ((command_Get.f kj16 (t376.take (a1 : Int).toNat)).bind fun bt406 => (some (bt406.2.2.2.2.2.2 == 3))) else (none)) else (none)))) = some r := by rw [if_neg (show ¬ (false = true) by decide)] at H; exact H
                    clear H
                    have H := H1
                    clear H1
                    by_cases c46 : a1 < 0
                    · rw [if_pos c46] at H
                      have c46b0 : decide (a1 < 0) = true := decide_eq_true c46
                      clear c46
                      obtain rfl := Option.some.inj H
                      go_wp2
                      go_ret
                      exact ⟨by first | rfl | (simp [errW_none, errW_some] <;> rfl) | (simp [*, errW_none, errW_some] <;> rfl), by repeat (first | (with_reducible first | exact HB.out | apply below_alloc | apply pw_below_drewN | apply below_drew1 | refine below_set ?_ GE374.out | refine below_set ?_ GE387.out | refine below_set ?_ GE401.out) | exact HB.out)⟩
                    · rw [if_neg c46] at H
                      have c46b0 : decide (a1 < 0) = false := decide_eq_false c46
                      clear c46
                      by_cases c47 : a1 ≥ (t376.length : Int)
                      · rw [if_pos c47] at H
                        have c47b0 : decide ((t376.length : Int) ≤ a1) = true := decide_eq_true c47
                        clear c47
                        obtain rfl := Option.some.inj H
                        go_wp2
                        go_ret
                        exact ⟨by first | rfl | (simp [errW_none, errW_some] <;> rfl) | (simp [*, errW_none, errW_some] <;> rfl), by repeat (first | (with_reducible first | exact HB.out | apply below_alloc | apply pw_below_drewN | apply below_drew1 | refine below_set ?_ GE374.out | refine below_set ?_ GE387.out | refine below_set ?_ GE401.out) | exact HB.out)⟩
                      · rw [if_neg c47] at H
                        have c47b0 : decide ((t376.length : Int) ≤ a1) = false := decide_eq_false c47
                        clear c47
                        by_cases c48 : 0 ≤ a1
                        · rw [if_pos c48] at H
                          have c48b0 := eq_true c48
                          have c48b1 : decide (0 ≤ a1) = true := decide_eq_true c48
                          clear c48
                          by_cases c49 : a1 ≤ (t376.length : Int)
                          · rw [if_pos c49] at H
                            have c49b0 := eq_true c49
                            have c49b1 : decide (a1 ≤ (t376.length : Int)) = true := decide_eq_true c49
                            clear c49
                            obtain ⟨y402, hy402⟩ : ∃ y_ : List Int, y_ = (t376.take (a1 : Int).toNat) := ⟨_, rfl⟩
                            replace H : ((command_Get.f kj16 y402).bind fun bt406 => (some (bt406.2.2.2.2.2.2 == 3))) = some r := by first | (rw [hy402]; with_reducible exact H) | (have H2_ := (Option.bind_some _ _).symm.trans H; rw [hy402]; with_reducible exact H2_) | (have H2_ := (Option.bind_some _ _).symm.trans H; with_reducible exact H2_) | with_reducible exact H | (rw [hy402]; exact H) | exact H
                            have Ny402 := Aside0.mk hy402
                            clear hy402
                            replace H := Option.bind_eq_some_iff.mp H
                            obtain ⟨⟨t406, t407, t408, t409, t410, t411, t412⟩, A500, H⟩ := H
                            replace H : (some (t412 == 3)) = some r := H
                            have A50 := Aside0.mk A500
                            clear A500
                            obtain rfl := Option.some.inj H
                            have q51 : (a1 : Int) ≤ ((t376.length : Int) : Int) := of_decide_eq_true (by first | (with_reducible assumption) | assumption)
                            obtain ⟨i051, hi051, _, hsz51, _⟩ := info_parts info5
                            have hroom51 : t376.length ≤ co20 := (Kd.R_reads' HO_8.out).2.1
                            have hC51 : Kd.C (Kd.int .u8) _ Ao20 t376.length t376 := (Kd.R_reads' HO_8.out).2.2
                            have hcut51 := cut_to (P := Try.prog) 26 5 .i64 Try.underlying26 hi051 Ao20 t376.length co20 a1 (of_decide_eq_true (by first | (with_reducible assumption) | assumption)) q51 hroom51
                            have hr51 := Kd.C_take (m := (a1 : Int).toNat) hC51 (by omega)
                            have hy51 : y402.length = (a1 : Int).toNat := (by rw [Ny402.out, List.length_take]; omega)
                            rw [← Ny402.out] at hr51
                            rw [← hy51] at hcut51
                            have HR405 := Aside0.mk hr51
                            have HC405 := Aside0.mk (show y402.length ≤ co20 from by omega)
                            clear hr51 hC51 hroom51 hi051 hsz51
                            have KY51 := Aside0.mk hy51
                            clear hy51
                            have KL51 := Aside0.mk (show (a1 : Int).toNat ≤ t376.length from by omega)
                            replace q51 := eq_true q51
                            go_wp2_with (first | ((with_reducible refine gate_callee (f := 16) rfl ?_); refine goesL_ (some 73) rfl rfl Try.func16 (by kernel_rfl) rfl #[.slice Ao20 y402.length co20] rfl (by (try simp only [List.map_toArray, List.map_cons, List.map_nil]); first | done | rfl | (simp only [List.length_drop, List.length_take]; rfl)) ?_; (with_reducible refine (command_Get.calls kj16 _ _ y402 t406 t407 t408 t409 t410 t411 t412 _ ?side1 ?side2 A50.out).mono ?_); (case side1 => repeat (first | exact (by repeat (first | (with_reducible exact HR405.out) | (with_reducible refine Kd.C_alloc ?_ _) | (with_reducible refine Kd.C_drewN ?_ _) | (with_reducible refine Kd.C_drew ?_) | exact HR405.out)) | (with_reducible refine Kd.C_alloc ?_ _) | (with_reducible refine Kd.C_drewN ?_ _) | (with_reducible refine Kd.C_drew ?_))); (case side2 => exact HC405.out); rintro e w52 ⟨rfl, hb⟩; refine ⟨_, rfl, ?_⟩; have n0_ := Aside0.mk (Kd.R_below (by (with_reducible repeat (first | apply Kd.R_alloc | apply Kd.R_drewN | apply Kd.R_drew)); exact HO_8.out) hb); have n1_ := Aside0.mk (blk_below (g := gb374) (o := .cells #[.int .i64 a0_0, .int .i64 a0_1, .int .i64 a0_2, .int .i64 a0_3, .int .i64 a0_4, .string a0_5] 23 (0, 0)) (by (with_reducible repeat (first | refine blk_drewN ?_ _ | refine blk_drew ?_ | refine blk_alloc ?_ _)); exact BK374.out) hb); have n2_ := Aside0.mk (blk_below (g := gb387) (o := .cells #[.int .i64 t380, .int .i64 t381, .int .i64 t382, .int .i64 t383, .int .i64 t384, .string t385] 23 (0, 0)) (by (with_reducible repeat (first | refine blk_drewN ?_ _ | refine blk_drew ?_ | refine blk_alloc ?_ _)); exact BK387.out) hb); have n3_ := Aside0.mk (blk_below (g := gb401) (o := .cells #[.int .i64 t394, .int .i64 t395, .int .i64 t396, .int .i64 t397, .int .i64 t398, .string t399] 23 (0, 0)) (by (with_reducible repeat (first | refine blk_drewN ?_ _ | refine blk_drew ?_ | refine blk_alloc ?_ _)); exact BK401.out) hb); have n4_ := Aside0.mk (Kd.C_below (by repeat (first | (with_reducible exact HR405.out) | (with_reducible refine Kd.C_alloc ?_ _) | (with_reducible refine Kd.C_drewN ?_ _) | (with_reducible refine Kd.C_drew ?_) | exact HR405.out)) hb); have n5_ := Aside0.mk (below_step (by repeat (first | (with_reducible first | exact HB.out | apply below_alloc | apply pw_below_drewN | apply below_drew1 | refine below_set ?_ GE374.out | refine below_set ?_ GE387.out | refine below_set ?_ GE401.out) | exact HB.out)) hb); clear HO_8; clear BK374; clear BK387; clear BK401; clear HR405; clear HB; have HO_8 := n0_; have BK374 := n1_; have BK387 := n2_; have BK401 := n3_; have HR405 := n4_; have HB := n5_; clear n0_ n1_ n2_ n3_ n4_ n5_; (try clear hb); (try clear hb2); (try clear hk); (try clear hi)) | ((with_reducible refine gate_dst (N := 14) rfl ?_); (try (refine gate_guard (by rfl) ?_; dsimp only)); refine box_event ?hg (N := 14) ?hd (cs := #[.int .i64 0, .int .i64 0, .int .i64 0, .int .i64 0, .int .i64 0, .string (⟨#[]⟩ : ByteArray)]) (t := 23) ?hr ?_; (case hd => rfl); (case hg => rfl); (case hr => first | (go_simp; done) | (go_simp; rfl)); intro gb413 hg w53 hbox hb; have n0_ := Aside0.mk (Kd.R_below (by (with_reducible repeat (first | apply Kd.R_alloc | apply Kd.R_drewN | apply Kd.R_drew)); exact HO_8.out) hb); have n1_ := Aside0.mk (blk_below (g := gb374) (o := .cells #[.int .i64 a0_0, .int .i64 a0_1, .int .i64 a0_2, .int .i64 a0_3, .int .i64 a0_4, .string a0_5] 23 (0, 0)) (by (with_reducible repeat (first | refine blk_drewN ?_ _ | refine blk_drew ?_ | refine blk_alloc ?_ _)); exact BK374.out) hb); have n2_ := Aside0.mk (blk_below (g := gb387) (o := .cells #[.int .i64 t380, .int .i64 t381, .int .i64 t382, .int .i64 t383, .int .i64 t384, .string t385] 23 (0, 0)) (by (with_reducible repeat (first | refine blk_drewN ?_ _ | refine blk_drew ?_ | refine blk_alloc ?_ _)); exact BK387.out) hb); have n3_ := Aside0.mk (blk_below (g := gb401) (o := .cells #[.int .i64 t394, .int .i64 t395, .int .i64 t396, .int .i64 t397, .int .i64 t398, .string t399] 23 (0, 0)) (by (with_reducible repeat (first | refine blk_drewN ?_ _ | refine blk_drew ?_ | refine blk_alloc ?_ _)); exact BK401.out) hb); have n4_ := Aside0.mk (Kd.C_below (by repeat (first | (with_reducible exact HR405.out) | (with_reducible refine Kd.C_alloc ?_ _) | (with_reducible refine Kd.C_drewN ?_ _) | (with_reducible refine Kd.C_drew ?_) | exact HR405.out)) hb); have n5_ := Aside0.mk (below_step (by repeat (first | (with_reducible first | exact HB.out | apply below_alloc | apply pw_below_drewN | apply below_drew1 | refine below_set ?_ GE374.out | refine below_set ?_ GE387.out | refine below_set ?_ GE401.out) | exact HB.out)) hb); have n6_ := Aside0.mk (hbox); have n7_ := Aside0.mk ((by rw [hg]; exact (below_size (by repeat (first | (with_reducible first | exact HB.out | apply below_alloc | apply pw_below_drewN | apply below_drew1 | refine below_set ?_ GE374.out | refine below_set ?_ GE387.out | refine below_set ?_ GE401.out) | exact HB.out))) : w.heap.size ≤ gb413)); have n8_ := Aside0.mk ((by rw [hg]; exact (below_size (by repeat (first | (with_reducible first | exact HB.out | apply below_alloc | apply pw_below_drewN | apply below_drew1 | refine below_set ?_ GE374.out | refine below_set ?_ GE387.out | refine below_set ?_ GE401.out) | exact HB.out))) : w.heap.size ≤ gb413)); have n9_ := Aside0.mk ((by rw [hg]; exact Nat.ne_of_lt (blk_lt (g := gb374) (o := .cells #[.int .i64 a0_0, .int .i64 a0_1, .int .i64 a0_2, .int .i64 a0_3, .int .i64 a0_4, .string a0_5] 23 (0, 0)) (by (with_reducible repeat (first | refine blk_drewN ?_ _ | refine blk_drew ?_ | refine blk_alloc ?_ _)); exact BK374.out)) : gb374 ≠ gb413)); have n10_ := Aside0.mk ((by rw [hg]; exact Nat.ne_of_gt (blk_lt (g := gb374) (o := .cells #[.int .i64 a0_0, .int .i64 a0_1, .int .i64 a0_2, .int .i64 a0_3, .int .i64 a0_4, .string a0_5] 23 (0, 0)) (by (with_reducible repeat (first | refine blk_drewN ?_ _ | refine blk_drew ?_ | refine blk_alloc ?_ _)); exact BK374.out)) : gb413 ≠ gb374)); have n11_ := Aside0.mk ((by rw [hg]; exact Nat.ne_of_lt (blk_lt (g := gb387) (o := .cells #[.int .i64 t380, .int .i64 t381, .int .i64 t382, .int .i64 t383, .int .i64 t384, .string t385] 23 (0, 0)) (by (with_reducible repeat (first | refine blk_drewN ?_ _ | refine blk_drew ?_ | refine blk_alloc ?_ _)); exact BK387.out)) : gb387 ≠ gb413)); have n12_ := Aside0.mk ((by rw [hg]; exact Nat.ne_of_gt (blk_lt (g := gb387) (o := .cells #[.int .i64 t380, .int .i64 t381, .int .i64 t382, .int .i64 t383, .int .i64 t384, .string t385] 23 (0, 0)) (by (with_reducible repeat (first | refine blk_drewN ?_ _ | refine blk_drew ?_ | refine blk_alloc ?_ _)); exact BK387.out)) : gb413 ≠ gb387)); have n13_ := Aside0.mk ((by rw [hg]; exact Nat.ne_of_lt (blk_lt (g := gb401) (o := .cells #[.int .i64 t394, .int .i64 t395, .int .i64 t396, .int .i64 t397, .int .i64 t398, .string t399] 23 (0, 0)) (by (with_reducible repeat (first | refine blk_drewN ?_ _ | refine blk_drew ?_ | refine blk_alloc ?_ _)); exact BK401.out)) : gb401 ≠ gb413)); have n14_ := Aside0.mk ((by rw [hg]; exact Nat.ne_of_gt (blk_lt (g := gb401) (o := .cells #[.int .i64 t394, .int .i64 t395, .int .i64 t396, .int .i64 t397, .int .i64 t398, .string t399] 23 (0, 0)) (by (with_reducible repeat (first | refine blk_drewN ?_ _ | refine blk_drew ?_ | refine blk_alloc ?_ _)); exact BK401.out)) : gb413 ≠ gb401)); clear HO_8; clear BK374; clear BK387; clear BK401; clear HR405; clear HB; have HO_8 := n0_; have BK374 := n1_; have BK387 := n2_; have BK401 := n3_; have HR405 := n4_; have HB := n5_; have BK413 := n6_; have GW413 := n7_; have GE413 := n8_; have NB374_413 := n9_; have NB413_374 := n10_; have NB387_413 := n11_; have NB413_387 := n12_; have NB401_413 := n13_; have NB413_401 := n14_; clear n0_ n1_ n2_ n3_ n4_ n5_ n6_ n7_ n8_ n9_ n10_ n11_ n12_ n13_ n14_; clear hb hbox hg; have hnb54 := NB413_374.out; have hnc54 := NB374_413.out; have hnb55 := NB413_387.out; have hnc55 := NB387_413.out; have hnb56 := NB413_401.out; have hnc56 := NB401_413.out; have hcz57_0 : w53.cell? ⟨gb413, 0, none⟩ = some (.int .i64 0) := (blk_cell BK413.out 0).trans rfl; have hcz57_1 : w53.cell? ⟨gb413, 1, none⟩ = some (.int .i64 0) := (blk_cell BK413.out 1).trans rfl; have hcz57_2 : w53.cell? ⟨gb413, 2, none⟩ = some (.int .i64 0) := (blk_cell BK413.out 2).trans rfl; have hcz57_3 : w53.cell? ⟨gb413, 3, none⟩ = some (.int .i64 0) := (blk_cell BK413.out 3).trans rfl; have hcz57_4 : w53.cell? ⟨gb413, 4, none⟩ = some (.int .i64 0) := (blk_cell BK413.out 4).trans rfl; have hcz57_5 : w53.cell? ⟨gb413, 5, none⟩ = some (.string (⟨#[]⟩ : ByteArray)) := (blk_cell BK413.out 5).trans rfl; have hfz57_0 := blk_frozen BK413.out 0; have hfz57_1 := blk_frozen BK413.out 1; have hfz57_2 := blk_frozen BK413.out 2; have hfz57_3 := blk_frozen BK413.out 3; have hfz57_4 := blk_frozen BK413.out 4; have hfz57_5 := blk_frozen BK413.out 5))
                            go_ret
                            exact ⟨by first | rfl | (simp [errW_none, errW_some] <;> rfl) | (simp [*, errW_none, errW_some] <;> rfl), by repeat (first | (with_reducible first | exact HB.out | apply below_alloc | apply pw_below_drewN | apply below_drew1 | refine below_set ?_ GE374.out | refine below_set ?_ GE387.out | refine below_set ?_ GE401.out | refine below_set ?_ GE413.out) | exact HB.out)⟩
                          · rw [if_neg c49] at H
                            exact absurd H (by simp)
                        · rw [if_neg c48] at H
                          exact absurd H (by simp)
            · rw [if_neg c15] at H
              exact absurd H (by simp)
          · rw [if_neg c14] at H
            exact absurd H (by simp)
        · rw [if_neg c12] at H
          have c12b0 : (t379 == 0) = false := beq_eq_false_iff_ne.mpr c12
          have c12b1 : (t379 != 0) = true := bne_iff_ne.mpr c12
          obtain rfl := Option.some.inj H
          have hcz58_0 : wc.cell? ⟨gb374, 0, none⟩ = some (.int .i64 a0_0) := (blk_cell BK374.out 0).trans rfl
          have hcz58_1 : wc.cell? ⟨gb374, 1, none⟩ = some (.int .i64 a0_1) := (blk_cell BK374.out 1).trans rfl
          have hcz58_2 : wc.cell? ⟨gb374, 2, none⟩ = some (.int .i64 a0_2) := (blk_cell BK374.out 2).trans rfl
          have hcz58_3 : wc.cell? ⟨gb374, 3, none⟩ = some (.int .i64 a0_3) := (blk_cell BK374.out 3).trans rfl
          have hcz58_4 : wc.cell? ⟨gb374, 4, none⟩ = some (.int .i64 a0_4) := (blk_cell BK374.out 4).trans rfl
          have hcz58_5 : wc.cell? ⟨gb374, 5, none⟩ = some (.string a0_5) := (blk_cell BK374.out 5).trans rfl
          have hfz58_0 := blk_frozen BK374.out 0
          have hfz58_1 := blk_frozen BK374.out 1
          have hfz58_2 := blk_frozen BK374.out 2
          have hfz58_3 := blk_frozen BK374.out 3
          have hfz58_4 := blk_frozen BK374.out 4
          have hfz58_5 := blk_frozen BK374.out 5
          go_wp2_with (first | ((with_reducible refine gate_callee (f := 11) rfl ?_); refine goesL_ (some 28) rfl rfl Try.func11 (by kernel_rfl) rfl #[.agg #[.int .i64 a0_0, .int .i64 a0_1, .int .i64 a0_2, .int .i64 a0_3, .int .i64 a0_4, .string a0_5]] rfl (by (try simp only [List.map_toArray, List.map_cons, List.map_nil]); first | done | rfl | (simp only [List.length_drop, List.length_take]; rfl)) ?_; (with_reducible refine (command_Put.calls kj4 a0_0 a0_1 a0_2 a0_3 a0_4 a0_5 t376 t379 _ A11.out).mono ?_); rintro e w59 ⟨v377, rfl, ho0, hb⟩; refine ⟨_, rfl, ?_⟩; have n0_ := Aside0.mk (Kd.R_lower ho0 (below_size (by repeat (first | (with_reducible first | exact HB.out | apply below_alloc | apply pw_below_drewN | apply below_drew1 | refine below_set ?_ GE374.out) | exact HB.out)))); have n1_ := Aside0.mk (blk_below (g := gb374) (o := .cells #[.int .i64 a0_0, .int .i64 a0_1, .int .i64 a0_2, .int .i64 a0_3, .int .i64 a0_4, .string a0_5] 23 (0, 0)) (by (with_reducible repeat (first | refine blk_drewN ?_ _ | refine blk_drew ?_ | refine blk_alloc ?_ _)); exact BK374.out) hb); have n2_ := Aside0.mk (below_step (by repeat (first | (with_reducible first | exact HB.out | apply below_alloc | apply pw_below_drewN | apply below_drew1 | refine below_set ?_ GE374.out) | exact HB.out)) hb); clear BK374; clear HB; have HO378 := n0_; have BK374 := n1_; have HB := n2_; clear n0_ n1_ n2_; (try clear hb); (try clear hb2); (try clear hk); (try clear hi); (try clear ho0); obtain ⟨Ao60, co60, eo60⟩ := Kd.R_slice HO378.out; subst eo60))
          go_ret
          exact ⟨by first | rfl | (simp [errW_none, errW_some] <;> rfl) | (simp [*, errW_none, errW_some] <;> rfl), by repeat (first | (with_reducible first | exact HB.out | apply below_alloc | apply pw_below_drewN | apply below_drew1 | refine below_set ?_ GE374.out) | exact HB.out)⟩

/-! ### colloquylaw04_CommandOnce: function 8 -/
def colloquylaw04_CommandOnce.j0 : Nat → List Int → Bool → Bool → Option (Bool)
  | 0, _, _, _ => none
  | k + 1, x0, x3, x15 => if x15 = true then (some x3) else ((command_Get.f k x0).bind fun bt415 => (if bt415.2.2.2.2.2.2 = 0 then ((command_Put.f k bt415.1 bt415.2.1 bt415.2.2.1 bt415.2.2.2.1 bt415.2.2.2.2.1 bt415.2.2.2.2.2.1).bind fun bt423 => (if bt423.2 = 0 then (if (strOfNums bt423.1).toList = (strOfNums x0).toList then ((command_May.f bt415.1 bt415.2.1 bt415.2.2.1 bt415.2.2.2.1 bt415.2.2.2.2.1 bt415.2.2.2.2.2.1).bind fun t427 => (some t427)) else (some false)) else (some false))) else (some (bt415.1 == 0 && (bt415.2.1 == 0 && (bt415.2.2.1 == 0 && (bt415.2.2.2.1 == 0 && (bt415.2.2.2.2.1 == 0 && (bt415.2.2.2.2.2.1.toList == ([] : List UInt8))))))))))
def colloquylaw04_CommandOnce.f (k : Nat) (l0 : List Int) : Option (Bool) := (colloquylaw04_awake.f k).bind fun t414 => (if t414 = true then (colloquylaw04_CommandOnce.j0 k l0 t414 (decide ((l0.length : Int) > 2000))) else (colloquylaw04_CommandOnce.j0 k l0 t414 true))
theorem colloquylaw04_CommandOnce.mono_l : ∀ k, (∀ y0 y1 y2, LeO (colloquylaw04_CommandOnce.j0 k y0 y1 y2) (colloquylaw04_CommandOnce.j0 (k + 1) y0 y1 y2))
  | 0 => fun _ _ _ r h => by simp [colloquylaw04_CommandOnce.j0] at h
  | k + 1 => by
    have ih0 := colloquylaw04_CommandOnce.mono_l k
    · intro y0 y1 y2
      unfold colloquylaw04_CommandOnce.j0
      repeat' first
      | (with_reducible exact ih0 _ _ _)
      | (with_reducible exact colloquylaw04_awake.mono _)
      | (with_reducible exact command_Get.mono _ _)
      | (with_reducible exact command_Put.mono _ _ _ _ _ _ _)
      | (with_reducible exact LeO.refl _)
      | (with_reducible exact LeO.none _)
      | (with_reducible refine LeO.ite ?_ ?_)
      | (with_reducible refine LeO.bind ?_ (fun _ => ?_))
      | exact ih0 _ _ _
      | exact colloquylaw04_awake.mono _
      | exact command_Get.mono _ _
      | exact command_Put.mono _ _ _ _ _ _ _
      | exact LeO.none _
      | refine LeO.ite ?_ ?_
      | refine LeO.bind ?_ (fun _ => ?_)
theorem colloquylaw04_CommandOnce.mono : ∀ a0 k, LeO (colloquylaw04_CommandOnce.f k a0) (colloquylaw04_CommandOnce.f (k + 1) a0) := by
  intro a0 k
  have ih0 := colloquylaw04_CommandOnce.mono_l k
  unfold colloquylaw04_CommandOnce.f
  repeat' first
      | (with_reducible exact ih0 _ _ _)
      | (with_reducible exact colloquylaw04_awake.mono _)
      | (with_reducible exact command_Get.mono _ _)
      | (with_reducible exact command_Put.mono _ _ _ _ _ _ _)
      | (with_reducible exact LeO.refl _)
      | (with_reducible exact LeO.none _)
      | (with_reducible refine LeO.ite ?_ ?_)
      | (with_reducible refine LeO.bind ?_ (fun _ => ?_))
      | exact ih0 _ _ _
      | exact colloquylaw04_awake.mono _
      | exact command_Get.mono _ _
      | exact command_Put.mono _ _ _ _ _ _ _
      | exact LeO.none _
      | refine LeO.ite ?_ ?_
      | refine LeO.bind ?_ (fun _ => ?_)
set_option maxHeartbeats 8000000 in
set_option maxRecDepth 100000 in
theorem colloquylaw04_CommandOnce.calls (k : Nat) (A0 : Option Addr) (c0 : Nat) (l0 : List Int) (r : Bool) (w : World) (hr0 : Kd.C (Kd.int .u8) w A0 l0.length l0) (hc0 : l0.length ≤ c0) (h : colloquylaw04_CommandOnce.f k l0 = some r) :
    Calls Try.prog 8 #[.slice A0 l0.length c0] w fun e w' => e = .returned (.bool r) ∧ Below w.heap.size w w' := by
  have hu23 := Try.underlying23
  have HR0 := Aside0.mk hr0
  have HC0 := Aside0.mk hc0
  clear hr0 hc0
  have HB := Aside0.mk (Below.refl w.heap.size w)
  have H : ((colloquylaw04_awake.f k).bind fun t414 => (if t414 = true then (colloquylaw04_CommandOnce.j0 k l0 t414 (decide ((l0.length : Int) > 2000))) else (colloquylaw04_CommandOnce.j0 k l0 t414 true))) = some r := h
  clear h
  replace H := Option.bind_eq_some_iff.mp H
  obtain ⟨t414, A20, H⟩ := H
  replace H : (if t414 = true then (colloquylaw04_CommandOnce.j0 k l0 t414 (decide ((l0.length : Int) > 2000))) else (colloquylaw04_CommandOnce.j0 k l0 t414 true)) = some r := H
  have A2 := Aside0.mk A20
  clear A20
  have HC3 := Aside0.mk H
  clear H
  go_enter Try.func8, Try.ntmps8
  go_upto_region 2 with (first | ((with_reducible refine gate_callee (f := 9) rfl ?_); refine goesL_ (some 8) rfl rfl Try.func9 (by kernel_rfl) rfl #[] rfl (by (try simp only [List.map_toArray, List.map_cons, List.map_nil]); first | done | rfl | (simp only [List.length_drop, List.length_take]; rfl)) ?_; (with_reducible refine (colloquylaw04_awake.calls k  t414 _ A2.out).mono ?_); rintro e w4 ⟨rfl, hb⟩; refine ⟨_, rfl, ?_⟩; have n0_ := Aside0.mk (below_step (by repeat (first | (with_reducible first | exact HB.out | apply below_alloc | apply pw_below_drewN | apply below_drew1) | exact HB.out)) hb); clear HB; have HB := n0_; clear n0_; (try clear hb); (try clear hb2); (try clear hk); (try clear hi)))
  (try simp only [Act.put, List.setIfInBounds_toArray, List.set_cons_zero, List.set_cons_succ])
  go_cut [15] (fun v15 wc => ∃ (kq : Nat) (x15_2 : Bool), v15 = .bool x15_2 ∧ Aside0 (colloquylaw04_CommandOnce.j0 kq l0 t414 x15_2 = some r) ∧ Aside0 (kq ≤ k) ∧ Aside0 (Below w.heap.size w wc))
  case first =>
    have H := HC3.out
    clear HC3
    by_cases c5 : t414 = true
    · subst c5
      have H1 : (colloquylaw04_CommandOnce.j0 k l0 true (decide ((l0.length : Int) > 2000))) = some r := by rw [if_pos rfl] at H; exact H
      clear H
      have H := H1
      clear H1
      have H' := Aside0.mk H
      clear H
      go_wp2
      go_meet
      case rel => exact ⟨_, (decide ((l0.length : Int) > 2000)), (by first | rfl | (simp; done) | (simp [*]; done)), H', ⟨by first | omega | exact Nat.le_refl _⟩, ⟨by repeat (first | (with_reducible first | exact HB.out | apply below_alloc | apply pw_below_drewN | apply below_drew1) | exact HB.out)⟩⟩
    · replace c5 := Bool.eq_false_iff.mpr c5
      subst c5
      have H1 : (colloquylaw04_CommandOnce.j0 k l0 false true) = some r := by rw [if_neg (show ¬ (false = true) by decide)] at H; exact H
      clear H
      have H := H1
      clear H1
      have H' := Aside0.mk H
      clear H
      go_wp2
      go_meet
      case rel => exact ⟨_, (true), (by first | rfl | (simp; done) | (simp [*]; done)), H', ⟨by first | omega | exact Nat.le_refl _⟩, ⟨by repeat (first | (with_reducible first | exact HB.out | apply below_alloc | apply pw_below_drewN | apply below_drew1) | exact HB.out)⟩⟩
  case rest =>
    clear HC3
    try clear p2
    try clear c5
    obtain ⟨kq, x15_2, rfl, HA, HJ2, HB⟩ := hcut
    cases kq with
    | zero => exact absurd HA.out (by simp [colloquylaw04_CommandOnce.j0])
    | succ kj2 =>
      have H := HA.out
      clear HA
      simp only [colloquylaw04_CommandOnce.j0] at H
      by_cases c6 : x15_2 = true
      · subst c6
        have H1 : (some t414) = some r := by rw [if_pos rfl] at H; exact H
        clear H
        have H := H1
        clear H1
        obtain rfl := Option.some.inj H
        go_wp2
        go_ret
        exact ⟨by first | rfl | (simp [errW_none, errW_some] <;> rfl) | (simp [*, errW_none, errW_some] <;> rfl), by repeat (first | (with_reducible first | exact HB.out | apply below_alloc | apply pw_below_drewN | apply below_drew1) | exact HB.out)⟩
      · replace c6 := Bool.eq_false_iff.mpr c6
        subst c6
        have H1 : ((command_Get.f kj2 l0).bind fun bt415 => (if bt415.2.2.2.2.2.2 = 0 then ((command_Put.f kj2 bt415.1 bt415.2.1 bt415.2.2.1 bt415.2.2.2.1 bt415.2.2.2.2.1 bt415.2.2.2.2.2.1).bind fun bt423 => (if bt423.2 = 0 then (if (strOfNums bt423.1).toList = (strOfNums l0).toList then ((command_May.f bt415.1 bt415.2.1 bt415.2.2.1 bt415.2.2.2.1 bt415.2.2.2.2.1 bt415.2.2.2.2.2.1).bind fun t427 => (some t427)) else (some false)) else (some false))) else (some (bt415.1 == 0 && (bt415.2.1 == 0 && (bt415.2.2.1 == 0 && (bt415.2.2.2.1 == 0 && (bt415.2.2.2.2.1 == 0 && (bt415.2.2.2.2.2.1.toList == ([] : List UInt8)))))))))) = some r := by rw [if_neg (show ¬ (false = true) by decide)] at H; exact H
        clear H
        have H := H1
        clear H1
        replace H := Option.bind_eq_some_iff.mp H
        obtain ⟨⟨t415, t416, t417, t418, t419, t420, t421⟩, A70, H⟩ := H
        replace H : (if t421 = 0 then ((command_Put.f kj2 t415 t416 t417 t418 t419 t420).bind fun bt423 => (if bt423.2 = 0 then (if (strOfNums bt423.1).toList = (strOfNums l0).toList then ((command_May.f t415 t416 t417 t418 t419 t420).bind fun t427 => (some t427)) else (some false)) else (some false))) else (some (t415 == 0 && (t416 == 0 && (t417 == 0 && (t418 == 0 && (t419 == 0 && (t420.toList == ([] : List UInt8))))))))) = some r := H
        have A7 := Aside0.mk A70
        clear A70
        by_cases c8 : t421 = 0
        · rw [if_pos c8] at H
          have c8b0 : (t421 == 0) = true := beq_iff_eq.mpr c8
          have c8b1 : (t421 != 0) = false := bne_eq_false_iff_eq.mpr c8
          clear c8
          replace H := Option.bind_eq_some_iff.mp H
          obtain ⟨⟨t423, t426⟩, A90, H⟩ := H
          replace H : (if t426 = 0 then (if (strOfNums t423).toList = (strOfNums l0).toList then ((command_May.f t415 t416 t417 t418 t419 t420).bind fun t427 => (some t427)) else (some false)) else (some false)) = some r := H
          have A9 := Aside0.mk A90
          clear A90
          by_cases c10 : t426 = 0
          · rw [if_pos c10] at H
            have c10b0 : (t426 == 0) = true := beq_iff_eq.mpr c10
            have c10b1 : (t426 != 0) = false := bne_eq_false_iff_eq.mpr c10
            clear c10
            by_cases c11 : (strOfNums t423).toList = (strOfNums l0).toList
            · rw [if_pos c11] at H
              have c11b0 : ((strOfNums t423).toList == (strOfNums l0).toList) = true := beq_iff_eq.mpr c11
              have c11b1 : ((strOfNums t423).toList != (strOfNums l0).toList) = false := bne_eq_false_iff_eq.mpr c11
              clear c11
              replace H := Option.bind_eq_some_iff.mp H
              obtain ⟨t427, A120, H⟩ := H
              replace H : (some t427) = some r := H
              have A12 := Aside0.mk A120
              clear A120
              obtain rfl := Option.some.inj H
              go_wp2_with (first | ((with_reducible refine gate_callee (f := 16) rfl ?_); refine goesL_ (some 19) rfl rfl Try.func16 (by kernel_rfl) rfl #[.slice A0 l0.length c0] rfl (by (try simp only [List.map_toArray, List.map_cons, List.map_nil]); first | done | rfl | (simp only [List.length_drop, List.length_take]; rfl)) ?_; (with_reducible refine (command_Get.calls kj2 _ _ l0 t415 t416 t417 t418 t419 t420 t421 _ ?side1 ?side2 A7.out).mono ?_); (case side1 => repeat (first | exact (Kd.C_below HR0.out HB.out) | (with_reducible refine Kd.C_alloc ?_ _) | (with_reducible refine Kd.C_drewN ?_ _) | (with_reducible refine Kd.C_drew ?_))); (case side2 => exact HC0.out); rintro e w13 ⟨rfl, hb⟩; refine ⟨_, rfl, ?_⟩; have n0_ := Aside0.mk (below_step (by repeat (first | (with_reducible first | exact HB.out | apply below_alloc | apply pw_below_drewN | apply below_drew1) | exact HB.out)) hb); clear HB; have HB := n0_; clear n0_; (try clear hb); (try clear hb2); (try clear hk); (try clear hi)) | ((with_reducible refine gate_dst (N := 4) rfl ?_); (try (refine gate_guard (by rfl) ?_; dsimp only)); refine box_event ?hg (N := 4) ?hd (cs := #[.int .i64 0, .int .i64 0, .int .i64 0, .int .i64 0, .int .i64 0, .string (⟨#[]⟩ : ByteArray)]) (t := 23) ?hr ?_; (case hd => rfl); (case hg => rfl); (case hr => first | (go_simp; done) | (go_simp; rfl)); intro gb422 hg w14 hbox hb; have n0_ := Aside0.mk (below_step (by repeat (first | (with_reducible first | exact HB.out | apply below_alloc | apply pw_below_drewN | apply below_drew1) | exact HB.out)) hb); have n1_ := Aside0.mk (hbox); have n2_ := Aside0.mk ((by rw [hg]; exact (below_size (by repeat (first | (with_reducible first | exact HB.out | apply below_alloc | apply pw_below_drewN | apply below_drew1) | exact HB.out))) : w.heap.size ≤ gb422)); have n3_ := Aside0.mk ((by rw [hg]; exact (below_size (by repeat (first | (with_reducible first | exact HB.out | apply below_alloc | apply pw_below_drewN | apply below_drew1) | exact HB.out))) : w.heap.size ≤ gb422)); clear HB; have HB := n0_; have BK422 := n1_; have GW422 := n2_; have GE422 := n3_; clear n0_ n1_ n2_ n3_; clear hb hbox hg; have hcz15_0 : w14.cell? ⟨gb422, 0, none⟩ = some (.int .i64 0) := (blk_cell BK422.out 0).trans rfl; have hcz15_1 : w14.cell? ⟨gb422, 1, none⟩ = some (.int .i64 0) := (blk_cell BK422.out 1).trans rfl; have hcz15_2 : w14.cell? ⟨gb422, 2, none⟩ = some (.int .i64 0) := (blk_cell BK422.out 2).trans rfl; have hcz15_3 : w14.cell? ⟨gb422, 3, none⟩ = some (.int .i64 0) := (blk_cell BK422.out 3).trans rfl; have hcz15_4 : w14.cell? ⟨gb422, 4, none⟩ = some (.int .i64 0) := (blk_cell BK422.out 4).trans rfl; have hcz15_5 : w14.cell? ⟨gb422, 5, none⟩ = some (.string (⟨#[]⟩ : ByteArray)) := (blk_cell BK422.out 5).trans rfl; have hfz15_0 := blk_frozen BK422.out 0; have hfz15_1 := blk_frozen BK422.out 1; have hfz15_2 := blk_frozen BK422.out 2; have hfz15_3 := blk_frozen BK422.out 3; have hfz15_4 := blk_frozen BK422.out 4; have hfz15_5 := blk_frozen BK422.out 5) | ((with_reducible refine gate_callee (f := 11) rfl ?_); refine goesL_ (some 29) rfl rfl Try.func11 (by kernel_rfl) rfl #[.agg #[.int .i64 t415, .int .i64 t416, .int .i64 t417, .int .i64 t418, .int .i64 t419, .string t420]] rfl (by (try simp only [List.map_toArray, List.map_cons, List.map_nil]); first | done | rfl | (simp only [List.length_drop, List.length_take]; rfl)) ?_; (with_reducible refine (command_Put.calls kj2 t415 t416 t417 t418 t419 t420 t423 t426 _ A9.out).mono ?_); rintro e w16 ⟨v424, rfl, ho0, hb⟩; refine ⟨_, rfl, ?_⟩; have n0_ := Aside0.mk (Kd.R_lower ho0 (below_size (by repeat (first | (with_reducible first | exact HB.out | apply below_alloc | apply pw_below_drewN | apply below_drew1 | refine below_set ?_ GE422.out) | exact HB.out)))); have n1_ := Aside0.mk (blk_below (g := gb422) (o := .cells #[.int .i64 t415, .int .i64 t416, .int .i64 t417, .int .i64 t418, .int .i64 t419, .string t420] 23 (0, 0)) (by (with_reducible repeat (first | refine blk_drewN ?_ _ | refine blk_drew ?_ | refine blk_alloc ?_ _)); refine blk_put (cs := #[.int .i64 t415, .int .i64 t416, .int .i64 t417, .int .i64 t418, .int .i64 t419, .string (⟨#[]⟩ : ByteArray)]) ?_ 5 _ rfl; (with_reducible repeat (first | refine blk_drewN ?_ _ | refine blk_drew ?_ | refine blk_alloc ?_ _)); refine blk_put (cs := #[.int .i64 t415, .int .i64 t416, .int .i64 t417, .int .i64 t418, .int .i64 0, .string (⟨#[]⟩ : ByteArray)]) ?_ 4 _ rfl; (with_reducible repeat (first | refine blk_drewN ?_ _ | refine blk_drew ?_ | refine blk_alloc ?_ _)); refine blk_put (cs := #[.int .i64 t415, .int .i64 t416, .int .i64 t417, .int .i64 0, .int .i64 0, .string (⟨#[]⟩ : ByteArray)]) ?_ 3 _ rfl; (with_reducible repeat (first | refine blk_drewN ?_ _ | refine blk_drew ?_ | refine blk_alloc ?_ _)); refine blk_put (cs := #[.int .i64 t415, .int .i64 t416, .int .i64 0, .int .i64 0, .int .i64 0, .string (⟨#[]⟩ : ByteArray)]) ?_ 2 _ rfl; (with_reducible repeat (first | refine blk_drewN ?_ _ | refine blk_drew ?_ | refine blk_alloc ?_ _)); refine blk_put (cs := #[.int .i64 t415, .int .i64 0, .int .i64 0, .int .i64 0, .int .i64 0, .string (⟨#[]⟩ : ByteArray)]) ?_ 1 _ rfl; (with_reducible repeat (first | refine blk_drewN ?_ _ | refine blk_drew ?_ | refine blk_alloc ?_ _)); refine blk_put (cs := #[.int .i64 0, .int .i64 0, .int .i64 0, .int .i64 0, .int .i64 0, .string (⟨#[]⟩ : ByteArray)]) ?_ 0 _ rfl; (with_reducible repeat (first | refine blk_drewN ?_ _ | refine blk_drew ?_ | refine blk_alloc ?_ _)); exact BK422.out) hb); have n2_ := Aside0.mk (below_step (by repeat (first | (with_reducible first | exact HB.out | apply below_alloc | apply pw_below_drewN | apply below_drew1 | refine below_set ?_ GE422.out) | exact HB.out)) hb); clear BK422; clear HB; have HO425 := n0_; have BK422 := n1_; have HB := n2_; clear n0_ n1_ n2_; (try clear hb); (try clear hb2); (try clear hk); (try clear hi); (try clear ho0); have hcv17 := own_string (P := Try.prog) Try.underlying26 Try.underlying5 Try.underlying9 (Kd.own_of_R HO425.out); (try have hcvq18 := fun nq_ => own_string (P := Try.prog) Try.underlying26 Try.underlying5 Try.underlying9 (Kd.own_of_R (Kd.R_drewN HO425.out nq_))); have hcv19 := Kd.C_string (P := Try.prog) (A := A0) (c := c0) Try.underlying26 Try.underlying5 Try.underlying9 (Kd.C_below HR0.out HB.out); (try have hcvq20 := fun nq_ => Kd.C_string (P := Try.prog) (A := A0) (c := c0) Try.underlying26 Try.underlying5 Try.underlying9 (Kd.C_drewN ((Kd.C_below HR0.out HB.out)) nq_)); have hcz22_0 : w16.cell? ⟨gb422, 0, none⟩ = some (.int .i64 t415) := (blk_cell BK422.out 0).trans rfl; have hcz22_1 : w16.cell? ⟨gb422, 1, none⟩ = some (.int .i64 t416) := (blk_cell BK422.out 1).trans rfl; have hcz22_2 : w16.cell? ⟨gb422, 2, none⟩ = some (.int .i64 t417) := (blk_cell BK422.out 2).trans rfl; have hcz22_3 : w16.cell? ⟨gb422, 3, none⟩ = some (.int .i64 t418) := (blk_cell BK422.out 3).trans rfl; have hcz22_4 : w16.cell? ⟨gb422, 4, none⟩ = some (.int .i64 t419) := (blk_cell BK422.out 4).trans rfl; have hcz22_5 : w16.cell? ⟨gb422, 5, none⟩ = some (.string t420) := (blk_cell BK422.out 5).trans rfl; have hfz22_0 := blk_frozen BK422.out 0; have hfz22_1 := blk_frozen BK422.out 1; have hfz22_2 := blk_frozen BK422.out 2; have hfz22_3 := blk_frozen BK422.out 3; have hfz22_4 := blk_frozen BK422.out 4; have hfz22_5 := blk_frozen BK422.out 5) | (go_at_call 10; (with_reducible refine (command_May.calls t415 t416 t417 t418 t419 t420 t427 _ A12.out).mono ?_); rintro e w23 ⟨rfl, hb⟩; have n0_ := Aside0.mk (Kd.R_below (by (with_reducible repeat (first | apply Kd.R_alloc | apply Kd.R_drewN | apply Kd.R_drew)); exact HO425.out) hb); have n1_ := Aside0.mk (blk_below (g := gb422) (o := .cells #[.int .i64 t415, .int .i64 t416, .int .i64 t417, .int .i64 t418, .int .i64 t419, .string t420] 23 (0, 0)) (by (with_reducible repeat (first | refine blk_drewN ?_ _ | refine blk_drew ?_ | refine blk_alloc ?_ _)); exact BK422.out) hb); have n2_ := Aside0.mk (below_step (by repeat (first | (with_reducible first | exact HB.out | apply below_alloc | apply pw_below_drewN | apply below_drew1 | refine below_set ?_ GE422.out) | exact HB.out)) hb); clear HO425; clear BK422; clear HB; have HO425 := n0_; have BK422 := n1_; have HB := n2_; clear n0_ n1_ n2_; (try clear hb); (try clear hb2); (try clear hk); (try clear hi)))
              go_ret
              exact ⟨by first | rfl | (simp [errW_none, errW_some] <;> rfl) | (simp [*, errW_none, errW_some] <;> rfl), by repeat (first | (with_reducible first | exact HB.out | apply below_alloc | apply pw_below_drewN | apply below_drew1 | refine below_set ?_ GE422.out) | exact HB.out)⟩
            · rw [if_neg c11] at H
              have c11b0 : ((strOfNums t423).toList == (strOfNums l0).toList) = false := beq_eq_false_iff_ne.mpr c11
              have c11b1 : ((strOfNums t423).toList != (strOfNums l0).toList) = true := bne_iff_ne.mpr c11
              obtain rfl := Option.some.inj H
              go_wp2_with (first | ((with_reducible refine gate_callee (f := 16) rfl ?_); refine goesL_ (some 19) rfl rfl Try.func16 (by kernel_rfl) rfl #[.slice A0 l0.length c0] rfl (by (try simp only [List.map_toArray, List.map_cons, List.map_nil]); first | done | rfl | (simp only [List.length_drop, List.length_take]; rfl)) ?_; (with_reducible refine (command_Get.calls kj2 _ _ l0 t415 t416 t417 t418 t419 t420 t421 _ ?side1 ?side2 A7.out).mono ?_); (case side1 => repeat (first | exact (Kd.C_below HR0.out HB.out) | (with_reducible refine Kd.C_alloc ?_ _) | (with_reducible refine Kd.C_drewN ?_ _) | (with_reducible refine Kd.C_drew ?_))); (case side2 => exact HC0.out); rintro e w24 ⟨rfl, hb⟩; refine ⟨_, rfl, ?_⟩; have n0_ := Aside0.mk (below_step (by repeat (first | (with_reducible first | exact HB.out | apply below_alloc | apply pw_below_drewN | apply below_drew1) | exact HB.out)) hb); clear HB; have HB := n0_; clear n0_; (try clear hb); (try clear hb2); (try clear hk); (try clear hi)) | ((with_reducible refine gate_dst (N := 4) rfl ?_); (try (refine gate_guard (by rfl) ?_; dsimp only)); refine box_event ?hg (N := 4) ?hd (cs := #[.int .i64 0, .int .i64 0, .int .i64 0, .int .i64 0, .int .i64 0, .string (⟨#[]⟩ : ByteArray)]) (t := 23) ?hr ?_; (case hd => rfl); (case hg => rfl); (case hr => first | (go_simp; done) | (go_simp; rfl)); intro gb422 hg w25 hbox hb; have n0_ := Aside0.mk (below_step (by repeat (first | (with_reducible first | exact HB.out | apply below_alloc | apply pw_below_drewN | apply below_drew1) | exact HB.out)) hb); have n1_ := Aside0.mk (hbox); have n2_ := Aside0.mk ((by rw [hg]; exact (below_size (by repeat (first | (with_reducible first | exact HB.out | apply below_alloc | apply pw_below_drewN | apply below_drew1) | exact HB.out))) : w.heap.size ≤ gb422)); have n3_ := Aside0.mk ((by rw [hg]; exact (below_size (by repeat (first | (with_reducible first | exact HB.out | apply below_alloc | apply pw_below_drewN | apply below_drew1) | exact HB.out))) : w.heap.size ≤ gb422)); clear HB; have HB := n0_; have BK422 := n1_; have GW422 := n2_; have GE422 := n3_; clear n0_ n1_ n2_ n3_; clear hb hbox hg; have hcz26_0 : w25.cell? ⟨gb422, 0, none⟩ = some (.int .i64 0) := (blk_cell BK422.out 0).trans rfl; have hcz26_1 : w25.cell? ⟨gb422, 1, none⟩ = some (.int .i64 0) := (blk_cell BK422.out 1).trans rfl; have hcz26_2 : w25.cell? ⟨gb422, 2, none⟩ = some (.int .i64 0) := (blk_cell BK422.out 2).trans rfl; have hcz26_3 : w25.cell? ⟨gb422, 3, none⟩ = some (.int .i64 0) := (blk_cell BK422.out 3).trans rfl; have hcz26_4 : w25.cell? ⟨gb422, 4, none⟩ = some (.int .i64 0) := (blk_cell BK422.out 4).trans rfl; have hcz26_5 : w25.cell? ⟨gb422, 5, none⟩ = some (.string (⟨#[]⟩ : ByteArray)) := (blk_cell BK422.out 5).trans rfl; have hfz26_0 := blk_frozen BK422.out 0; have hfz26_1 := blk_frozen BK422.out 1; have hfz26_2 := blk_frozen BK422.out 2; have hfz26_3 := blk_frozen BK422.out 3; have hfz26_4 := blk_frozen BK422.out 4; have hfz26_5 := blk_frozen BK422.out 5) | ((with_reducible refine gate_callee (f := 11) rfl ?_); refine goesL_ (some 29) rfl rfl Try.func11 (by kernel_rfl) rfl #[.agg #[.int .i64 t415, .int .i64 t416, .int .i64 t417, .int .i64 t418, .int .i64 t419, .string t420]] rfl (by (try simp only [List.map_toArray, List.map_cons, List.map_nil]); first | done | rfl | (simp only [List.length_drop, List.length_take]; rfl)) ?_; (with_reducible refine (command_Put.calls kj2 t415 t416 t417 t418 t419 t420 t423 t426 _ A9.out).mono ?_); rintro e w27 ⟨v424, rfl, ho0, hb⟩; refine ⟨_, rfl, ?_⟩; have n0_ := Aside0.mk (Kd.R_lower ho0 (below_size (by repeat (first | (with_reducible first | exact HB.out | apply below_alloc | apply pw_below_drewN | apply below_drew1 | refine below_set ?_ GE422.out) | exact HB.out)))); have n1_ := Aside0.mk (blk_below (g := gb422) (o := .cells #[.int .i64 t415, .int .i64 t416, .int .i64 t417, .int .i64 t418, .int .i64 t419, .string t420] 23 (0, 0)) (by (with_reducible repeat (first | refine blk_drewN ?_ _ | refine blk_drew ?_ | refine blk_alloc ?_ _)); refine blk_put (cs := #[.int .i64 t415, .int .i64 t416, .int .i64 t417, .int .i64 t418, .int .i64 t419, .string (⟨#[]⟩ : ByteArray)]) ?_ 5 _ rfl; (with_reducible repeat (first | refine blk_drewN ?_ _ | refine blk_drew ?_ | refine blk_alloc ?_ _)); refine blk_put (cs := #[.int .i64 t415, .int .i64 t416, .int .i64 t417, .int .i64 t418, .int .i64 0, .string (⟨#[]⟩ : ByteArray)]) ?_ 4 _ rfl; (with_reducible repeat (first | refine blk_drewN ?_ _ | refine blk_drew ?_ | refine blk_alloc ?_ _)); refine blk_put (cs := #[.int .i64 t415, .int .i64 t416, .int .i64 t417, .int .i64 0, .int .i64 0, .string (⟨#[]⟩ : ByteArray)]) ?_ 3 _ rfl; (with_reducible repeat (first | refine blk_drewN ?_ _ | refine blk_drew ?_ | refine blk_alloc ?_ _)); refine blk_put (cs := #[.int .i64 t415, .int .i64 t416, .int .i64 0, .int .i64 0, .int .i64 0, .string (⟨#[]⟩ : ByteArray)]) ?_ 2 _ rfl; (with_reducible repeat (first | refine blk_drewN ?_ _ | refine blk_drew ?_ | refine blk_alloc ?_ _)); refine blk_put (cs := #[.int .i64 t415, .int .i64 0, .int .i64 0, .int .i64 0, .int .i64 0, .string (⟨#[]⟩ : ByteArray)]) ?_ 1 _ rfl; (with_reducible repeat (first | refine blk_drewN ?_ _ | refine blk_drew ?_ | refine blk_alloc ?_ _)); refine blk_put (cs := #[.int .i64 0, .int .i64 0, .int .i64 0, .int .i64 0, .int .i64 0, .string (⟨#[]⟩ : ByteArray)]) ?_ 0 _ rfl; (with_reducible repeat (first | refine blk_drewN ?_ _ | refine blk_drew ?_ | refine blk_alloc ?_ _)); exact BK422.out) hb); have n2_ := Aside0.mk (below_step (by repeat (first | (with_reducible first | exact HB.out | apply below_alloc | apply pw_below_drewN | apply below_drew1 | refine below_set ?_ GE422.out) | exact HB.out)) hb); clear BK422; clear HB; have HO425 := n0_; have BK422 := n1_; have HB := n2_; clear n0_ n1_ n2_; (try clear hb); (try clear hb2); (try clear hk); (try clear hi); (try clear ho0); have hcv28 := own_string (P := Try.prog) Try.underlying26 Try.underlying5 Try.underlying9 (Kd.own_of_R HO425.out); (try have hcvq29 := fun nq_ => own_string (P := Try.prog) Try.underlying26 Try.underlying5 Try.underlying9 (Kd.own_of_R (Kd.R_drewN HO425.out nq_))); have hcv30 := Kd.C_string (P := Try.prog) (A := A0) (c := c0) Try.underlying26 Try.underlying5 Try.underlying9 (Kd.C_below HR0.out HB.out); (try have hcvq31 := fun nq_ => Kd.C_string (P := Try.prog) (A := A0) (c := c0) Try.underlying26 Try.underlying5 Try.underlying9 (Kd.C_drewN ((Kd.C_below HR0.out HB.out)) nq_))))
              go_ret
              exact ⟨by first | rfl | (simp [errW_none, errW_some] <;> rfl) | (simp [*, errW_none, errW_some] <;> rfl), by repeat (first | (with_reducible first | exact HB.out | apply below_alloc | apply pw_below_drewN | apply below_drew1 | refine below_set ?_ GE422.out) | exact HB.out)⟩
          · rw [if_neg c10] at H
            have c10b0 : (t426 == 0) = false := beq_eq_false_iff_ne.mpr c10
            have c10b1 : (t426 != 0) = true := bne_iff_ne.mpr c10
            obtain rfl := Option.some.inj H
            go_wp2_with (first | ((with_reducible refine gate_callee (f := 16) rfl ?_); refine goesL_ (some 19) rfl rfl Try.func16 (by kernel_rfl) rfl #[.slice A0 l0.length c0] rfl (by (try simp only [List.map_toArray, List.map_cons, List.map_nil]); first | done | rfl | (simp only [List.length_drop, List.length_take]; rfl)) ?_; (with_reducible refine (command_Get.calls kj2 _ _ l0 t415 t416 t417 t418 t419 t420 t421 _ ?side1 ?side2 A7.out).mono ?_); (case side1 => repeat (first | exact (Kd.C_below HR0.out HB.out) | (with_reducible refine Kd.C_alloc ?_ _) | (with_reducible refine Kd.C_drewN ?_ _) | (with_reducible refine Kd.C_drew ?_))); (case side2 => exact HC0.out); rintro e w33 ⟨rfl, hb⟩; refine ⟨_, rfl, ?_⟩; have n0_ := Aside0.mk (below_step (by repeat (first | (with_reducible first | exact HB.out | apply below_alloc | apply pw_below_drewN | apply below_drew1) | exact HB.out)) hb); clear HB; have HB := n0_; clear n0_; (try clear hb); (try clear hb2); (try clear hk); (try clear hi)) | ((with_reducible refine gate_dst (N := 4) rfl ?_); (try (refine gate_guard (by rfl) ?_; dsimp only)); refine box_event ?hg (N := 4) ?hd (cs := #[.int .i64 0, .int .i64 0, .int .i64 0, .int .i64 0, .int .i64 0, .string (⟨#[]⟩ : ByteArray)]) (t := 23) ?hr ?_; (case hd => rfl); (case hg => rfl); (case hr => first | (go_simp; done) | (go_simp; rfl)); intro gb422 hg w34 hbox hb; have n0_ := Aside0.mk (below_step (by repeat (first | (with_reducible first | exact HB.out | apply below_alloc | apply pw_below_drewN | apply below_drew1) | exact HB.out)) hb); have n1_ := Aside0.mk (hbox); have n2_ := Aside0.mk ((by rw [hg]; exact (below_size (by repeat (first | (with_reducible first | exact HB.out | apply below_alloc | apply pw_below_drewN | apply below_drew1) | exact HB.out))) : w.heap.size ≤ gb422)); have n3_ := Aside0.mk ((by rw [hg]; exact (below_size (by repeat (first | (with_reducible first | exact HB.out | apply below_alloc | apply pw_below_drewN | apply below_drew1) | exact HB.out))) : w.heap.size ≤ gb422)); clear HB; have HB := n0_; have BK422 := n1_; have GW422 := n2_; have GE422 := n3_; clear n0_ n1_ n2_ n3_; clear hb hbox hg; have hcz35_0 : w34.cell? ⟨gb422, 0, none⟩ = some (.int .i64 0) := (blk_cell BK422.out 0).trans rfl; have hcz35_1 : w34.cell? ⟨gb422, 1, none⟩ = some (.int .i64 0) := (blk_cell BK422.out 1).trans rfl; have hcz35_2 : w34.cell? ⟨gb422, 2, none⟩ = some (.int .i64 0) := (blk_cell BK422.out 2).trans rfl; have hcz35_3 : w34.cell? ⟨gb422, 3, none⟩ = some (.int .i64 0) := (blk_cell BK422.out 3).trans rfl; have hcz35_4 : w34.cell? ⟨gb422, 4, none⟩ = some (.int .i64 0) := (blk_cell BK422.out 4).trans rfl; have hcz35_5 : w34.cell? ⟨gb422, 5, none⟩ = some (.string (⟨#[]⟩ : ByteArray)) := (blk_cell BK422.out 5).trans rfl; have hfz35_0 := blk_frozen BK422.out 0; have hfz35_1 := blk_frozen BK422.out 1; have hfz35_2 := blk_frozen BK422.out 2; have hfz35_3 := blk_frozen BK422.out 3; have hfz35_4 := blk_frozen BK422.out 4; have hfz35_5 := blk_frozen BK422.out 5) | ((with_reducible refine gate_callee (f := 11) rfl ?_); refine goesL_ (some 29) rfl rfl Try.func11 (by kernel_rfl) rfl #[.agg #[.int .i64 t415, .int .i64 t416, .int .i64 t417, .int .i64 t418, .int .i64 t419, .string t420]] rfl (by (try simp only [List.map_toArray, List.map_cons, List.map_nil]); first | done | rfl | (simp only [List.length_drop, List.length_take]; rfl)) ?_; (with_reducible refine (command_Put.calls kj2 t415 t416 t417 t418 t419 t420 t423 t426 _ A9.out).mono ?_); rintro e w36 ⟨v424, rfl, ho0, hb⟩; refine ⟨_, rfl, ?_⟩; have n0_ := Aside0.mk (Kd.R_lower ho0 (below_size (by repeat (first | (with_reducible first | exact HB.out | apply below_alloc | apply pw_below_drewN | apply below_drew1 | refine below_set ?_ GE422.out) | exact HB.out)))); have n1_ := Aside0.mk (blk_below (g := gb422) (o := .cells #[.int .i64 t415, .int .i64 t416, .int .i64 t417, .int .i64 t418, .int .i64 t419, .string t420] 23 (0, 0)) (by (with_reducible repeat (first | refine blk_drewN ?_ _ | refine blk_drew ?_ | refine blk_alloc ?_ _)); refine blk_put (cs := #[.int .i64 t415, .int .i64 t416, .int .i64 t417, .int .i64 t418, .int .i64 t419, .string (⟨#[]⟩ : ByteArray)]) ?_ 5 _ rfl; (with_reducible repeat (first | refine blk_drewN ?_ _ | refine blk_drew ?_ | refine blk_alloc ?_ _)); refine blk_put (cs := #[.int .i64 t415, .int .i64 t416, .int .i64 t417, .int .i64 t418, .int .i64 0, .string (⟨#[]⟩ : ByteArray)]) ?_ 4 _ rfl; (with_reducible repeat (first | refine blk_drewN ?_ _ | refine blk_drew ?_ | refine blk_alloc ?_ _)); refine blk_put (cs := #[.int .i64 t415, .int .i64 t416, .int .i64 t417, .int .i64 0, .int .i64 0, .string (⟨#[]⟩ : ByteArray)]) ?_ 3 _ rfl; (with_reducible repeat (first | refine blk_drewN ?_ _ | refine blk_drew ?_ | refine blk_alloc ?_ _)); refine blk_put (cs := #[.int .i64 t415, .int .i64 t416, .int .i64 0, .int .i64 0, .int .i64 0, .string (⟨#[]⟩ : ByteArray)]) ?_ 2 _ rfl; (with_reducible repeat (first | refine blk_drewN ?_ _ | refine blk_drew ?_ | refine blk_alloc ?_ _)); refine blk_put (cs := #[.int .i64 t415, .int .i64 0, .int .i64 0, .int .i64 0, .int .i64 0, .string (⟨#[]⟩ : ByteArray)]) ?_ 1 _ rfl; (with_reducible repeat (first | refine blk_drewN ?_ _ | refine blk_drew ?_ | refine blk_alloc ?_ _)); refine blk_put (cs := #[.int .i64 0, .int .i64 0, .int .i64 0, .int .i64 0, .int .i64 0, .string (⟨#[]⟩ : ByteArray)]) ?_ 0 _ rfl; (with_reducible repeat (first | refine blk_drewN ?_ _ | refine blk_drew ?_ | refine blk_alloc ?_ _)); exact BK422.out) hb); have n2_ := Aside0.mk (below_step (by repeat (first | (with_reducible first | exact HB.out | apply below_alloc | apply pw_below_drewN | apply below_drew1 | refine below_set ?_ GE422.out) | exact HB.out)) hb); clear BK422; clear HB; have HO425 := n0_; have BK422 := n1_; have HB := n2_; clear n0_ n1_ n2_; (try clear hb); (try clear hb2); (try clear hk); (try clear hi); (try clear ho0)))
            go_ret
            exact ⟨by first | rfl | (simp [errW_none, errW_some] <;> rfl) | (simp [*, errW_none, errW_some] <;> rfl), by repeat (first | (with_reducible first | exact HB.out | apply below_alloc | apply pw_below_drewN | apply below_drew1 | refine below_set ?_ GE422.out) | exact HB.out)⟩
        · rw [if_neg c8] at H
          have c8b0 : (t421 == 0) = false := beq_eq_false_iff_ne.mpr c8
          have c8b1 : (t421 != 0) = true := bne_iff_ne.mpr c8
          obtain rfl := Option.some.inj H
          go_wp2_with (first | ((with_reducible refine gate_callee (f := 16) rfl ?_); refine goesL_ (some 19) rfl rfl Try.func16 (by kernel_rfl) rfl #[.slice A0 l0.length c0] rfl (by (try simp only [List.map_toArray, List.map_cons, List.map_nil]); first | done | rfl | (simp only [List.length_drop, List.length_take]; rfl)) ?_; (with_reducible refine (command_Get.calls kj2 _ _ l0 t415 t416 t417 t418 t419 t420 t421 _ ?side1 ?side2 A7.out).mono ?_); (case side1 => repeat (first | exact (Kd.C_below HR0.out HB.out) | (with_reducible refine Kd.C_alloc ?_ _) | (with_reducible refine Kd.C_drewN ?_ _) | (with_reducible refine Kd.C_drew ?_))); (case side2 => exact HC0.out); rintro e w37 ⟨rfl, hb⟩; refine ⟨_, rfl, ?_⟩; have n0_ := Aside0.mk (below_step (by repeat (first | (with_reducible first | exact HB.out | apply below_alloc | apply pw_below_drewN | apply below_drew1) | exact HB.out)) hb); clear HB; have HB := n0_; clear n0_; (try clear hb); (try clear hb2); (try clear hk); (try clear hi)) | ((with_reducible refine gate_dst (N := 4) rfl ?_); (try (refine gate_guard (by rfl) ?_; dsimp only)); refine box_event ?hg (N := 4) ?hd (cs := #[.int .i64 0, .int .i64 0, .int .i64 0, .int .i64 0, .int .i64 0, .string (⟨#[]⟩ : ByteArray)]) (t := 23) ?hr ?_; (case hd => rfl); (case hg => rfl); (case hr => first | (go_simp; done) | (go_simp; rfl)); intro gb422 hg w38 hbox hb; have n0_ := Aside0.mk (below_step (by repeat (first | (with_reducible first | exact HB.out | apply below_alloc | apply pw_below_drewN | apply below_drew1) | exact HB.out)) hb); have n1_ := Aside0.mk (hbox); have n2_ := Aside0.mk ((by rw [hg]; exact (below_size (by repeat (first | (with_reducible first | exact HB.out | apply below_alloc | apply pw_below_drewN | apply below_drew1) | exact HB.out))) : w.heap.size ≤ gb422)); have n3_ := Aside0.mk ((by rw [hg]; exact (below_size (by repeat (first | (with_reducible first | exact HB.out | apply below_alloc | apply pw_below_drewN | apply below_drew1) | exact HB.out))) : w.heap.size ≤ gb422)); clear HB; have HB := n0_; have BK422 := n1_; have GW422 := n2_; have GE422 := n3_; clear n0_ n1_ n2_ n3_; clear hb hbox hg; have hcz39_0 : w38.cell? ⟨gb422, 0, none⟩ = some (.int .i64 0) := (blk_cell BK422.out 0).trans rfl; have hcz39_1 : w38.cell? ⟨gb422, 1, none⟩ = some (.int .i64 0) := (blk_cell BK422.out 1).trans rfl; have hcz39_2 : w38.cell? ⟨gb422, 2, none⟩ = some (.int .i64 0) := (blk_cell BK422.out 2).trans rfl; have hcz39_3 : w38.cell? ⟨gb422, 3, none⟩ = some (.int .i64 0) := (blk_cell BK422.out 3).trans rfl; have hcz39_4 : w38.cell? ⟨gb422, 4, none⟩ = some (.int .i64 0) := (blk_cell BK422.out 4).trans rfl; have hcz39_5 : w38.cell? ⟨gb422, 5, none⟩ = some (.string (⟨#[]⟩ : ByteArray)) := (blk_cell BK422.out 5).trans rfl; have hfz39_0 := blk_frozen BK422.out 0; have hfz39_1 := blk_frozen BK422.out 1; have hfz39_2 := blk_frozen BK422.out 2; have hfz39_3 := blk_frozen BK422.out 3; have hfz39_4 := blk_frozen BK422.out 4; have hfz39_5 := blk_frozen BK422.out 5))
          go_ret
          exact ⟨by first | rfl | (simp [errW_none, errW_some] <;> rfl) | (simp [*, errW_none, errW_some] <;> rfl), by repeat (first | (with_reducible first | exact HB.out | apply below_alloc | apply pw_below_drewN | apply below_drew1 | refine below_set ?_ GE422.out) | exact HB.out)⟩

/-- THE ONE PURE STATEMENT of colloquylaw04_CommandOnce: yours. -/
def colloquylaw04_CommandOnce.Pure : Prop := ∀ (l0 : List Int), l0.length ≤ maxLen → l0.length * 1 ≤ 140737488351232 → (∀ x ∈ l0, (Lit.int .u8 x).wf = true) → ∃ k, colloquylaw04_CommandOnce.f k l0 = some true
theorem colloquylaw04_CommandOnce.walk (P : colloquylaw04_CommandOnce.Pure) (a0 : Option Addr) (len0 cap0 : Nat) (z0 : List Int) (w : World) (w0 : (a0 = none ∧ len0 = 0 ∧ cap0 = 0 ∧ z0 = []) ∨ ∃ x, a0 = some x ∧ len0 ≤ cap0 ∧ cap0 ≤ maxLen ∧ z0.length = cap0 ∧ (∀ i, i < z0.length → w.cell? (x.add i) = some (.int .u8 (z0.getD i 0))) ∧ ∀ n ∈ z0, (Lit.int .u8 n).wf = true) (y0 : len0 * 1 ≤ 140737488351232) :
    Calls Try.prog 8 #[.slice a0 len0 cap0] w fun e w' => e = .returned (.bool true) ∧ Below w.heap.size w w' := by
  obtain ⟨l0, rfl, hr0, hm0, hw0, hc0⟩ := ReadsInt.ofRowC w0
  obtain ⟨k, h⟩ := P l0 hm0 y0 hw0
  refine (colloquylaw04_CommandOnce.calls k _ _ l0 true w (Kd.C_of_reads (d := (0 : Int)) (h1 := fun _ => rfl) hr0) hc0 h).mono ?_
  rintro e w' ⟨rfl, hd⟩
  exact ⟨rfl, hd⟩

end Go.Proofs.Ythkipipfdlepnaa.PAll
