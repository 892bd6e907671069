/- The machine's side of this claim, written by a program of this session out of the translation: for each Go function a Lean function of its answers, and the proof that the code comes to just these. Conditions: those that each theorem states. -/
import Derived.Test.YthkipipfdlepnaaPAllx0
import Derived.Test.YthkipipfdlepnaaPAllx1
import Derived.Test.YthkipipfdlepnaaPAllx4
import Derived.Test.YthkipipfdlepnaaPAllx5
import Derived.Test.YthkipipfdlepnaaPAllx8
namespace Go.Proofs.Ythkipipfdlepnaa.PAll
open Go.RowKit Go.Proofs.YthkipipfdlepnaaW.PrintWords Go.Proofs.YthkipipfdlepnaaW.PrintLast Go.Proofs.YthkipipfdlepnaaW.PrintMore
attribute [local go_sem] max2_int min2_int max_two min_two max_three min_three max_four min_four   -- for this text's walks alone
set_option linter.unusedVariables false
set_option linter.unusedSimpArgs false

attribute [local go_sem high] eqA23
/-! ### colloquylaw04_CommandGets: function 6 -/
def colloquylaw04_CommandGets.j0 : Nat → List Int → Bool → Bool → Option (Bool)
  | 0, _, _, _ => none
  | k + 1, x0, x3, x15 => if x15 = true then (some x3) else ((command_Get.f k x0).bind fun bt205 => ((colloquyref04_Get.f k x0).bind fun bt213 => (if (bt205.1 == bt213.1 && (bt205.2.1 == bt213.2.1 && (bt205.2.2.1 == bt213.2.2.1 && (bt205.2.2.2.1 == bt213.2.2.2.1 && (bt205.2.2.2.2.1 == bt213.2.2.2.2.1 && (bt205.2.2.2.2.2.1.toList == bt213.2.2.2.2.2.1.toList)))))) = true then (some (bt205.2.2.2.2.2.2 == bt213.2.2.2.2.2.2)) else (some false))))
def colloquylaw04_CommandGets.f (k : Nat) (l0 : List Int) : Option (Bool) := (colloquylaw04_awake.f k).bind fun t204 => (if t204 = true then (colloquylaw04_CommandGets.j0 k l0 t204 (decide ((l0.length : Int) > 2000))) else (colloquylaw04_CommandGets.j0 k l0 t204 true))
theorem colloquylaw04_CommandGets.mono_l : ∀ k, (∀ y0 y1 y2, LeO (colloquylaw04_CommandGets.j0 k y0 y1 y2) (colloquylaw04_CommandGets.j0 (k + 1) y0 y1 y2))
  | 0 => fun _ _ _ r h => by simp [colloquylaw04_CommandGets.j0] at h
  | k + 1 => by
    have ih0 := colloquylaw04_CommandGets.mono_l k
    · intro y0 y1 y2
      unfold colloquylaw04_CommandGets.j0
      repeat' first
      | (with_reducible exact ih0 _ _ _)
      | (with_reducible exact colloquylaw04_awake.mono _)
      | (with_reducible exact colloquyref04_Get.mono _ _)
      | (with_reducible exact command_Get.mono _ _)
      | (with_reducible exact LeO.refl _)
      | (with_reducible exact LeO.none _)
      | (with_reducible refine LeO.ite ?_ ?_)
      | (with_reducible refine LeO.bind ?_ (fun _ => ?_))
      | exact ih0 _ _ _
      | exact colloquylaw04_awake.mono _
      | exact colloquyref04_Get.mono _ _
      | exact command_Get.mono _ _
      | exact LeO.none _
      | refine LeO.ite ?_ ?_
      | refine LeO.bind ?_ (fun _ => ?_)
theorem colloquylaw04_CommandGets.mono : ∀ a0 k, LeO (colloquylaw04_CommandGets.f k a0) (colloquylaw04_CommandGets.f (k + 1) a0) := by
  intro a0 k
  have ih0 := colloquylaw04_CommandGets.mono_l k
  unfold colloquylaw04_CommandGets.f
  repeat' first
      | (with_reducible exact ih0 _ _ _)
      | (with_reducible exact colloquylaw04_awake.mono _)
      | (with_reducible exact colloquyref04_Get.mono _ _)
      | (with_reducible exact command_Get.mono _ _)
      | (with_reducible exact LeO.refl _)
      | (with_reducible exact LeO.none _)
      | (with_reducible refine LeO.ite ?_ ?_)
      | (with_reducible refine LeO.bind ?_ (fun _ => ?_))
      | exact ih0 _ _ _
      | exact colloquylaw04_awake.mono _
      | exact colloquyref04_Get.mono _ _
      | exact command_Get.mono _ _
      | exact LeO.none _
      | refine LeO.ite ?_ ?_
      | refine LeO.bind ?_ (fun _ => ?_)
set_option maxHeartbeats 8000000 in
set_option maxRecDepth 100000 in
theorem colloquylaw04_CommandGets.calls (k : Nat) (A0 : Option Addr) (c0 : Nat) (l0 : List Int) (r : Bool) (w : World) (hr0 : Kd.C (Kd.int .u8) w A0 l0.length l0) (hc0 : l0.length ≤ c0) (h : colloquylaw04_CommandGets.f k l0 = some r) :
    Calls Try.prog 6 #[.slice A0 l0.length c0] w fun e w' => e = .returned (.bool r) ∧ Below w.heap.size w w' := by
  have hu23 := Try.underlying23
  have HR0 := Aside0.mk hr0
  have HC0 := Aside0.mk hc0
  clear hr0 hc0
  have HB := Aside0.mk (Below.refl w.heap.size w)
  have H : ((colloquylaw04_awake.f k).bind fun t204 => (if t204 = true then (colloquylaw04_CommandGets.j0 k l0 t204 (decide ((l0.length : Int) > 2000))) else (colloquylaw04_CommandGets.j0 k l0 t204 true))) = some r := h
  clear h
  replace H := Option.bind_eq_some_iff.mp H
  obtain ⟨t204, A20, H⟩ := H
  replace H : (if t204 = true then (colloquylaw04_CommandGets.j0 k l0 t204 (decide ((l0.length : Int) > 2000))) else (colloquylaw04_CommandGets.j0 k l0 t204 true)) = some r := H
  have A2 := Aside0.mk A20
  clear A20
  have HC3 := Aside0.mk H
  clear H
  go_enter Try.func6, Try.ntmps6
  go_upto_region 2 with (first | ((with_reducible refine gate_callee (f := 9) rfl ?_); refine goesL_ (some 8) rfl rfl Try.func9 (by kernel_rfl) rfl #[] rfl (by (try simp only [List.map_toArray, List.map_cons, List.map_nil]); first | done | rfl | (simp only [List.length_drop, List.length_take]; rfl)) ?_; (with_reducible refine (colloquylaw04_awake.calls k  t204 _ A2.out).mono ?_); rintro e w4 ⟨rfl, hb⟩; refine ⟨_, rfl, ?_⟩; have n0_ := Aside0.mk (below_step (by repeat (first | (with_reducible first | exact HB.out | apply below_alloc | apply pw_below_drewN | apply below_drew1) | exact HB.out)) hb); clear HB; have HB := n0_; clear n0_; (try clear hb); (try clear hb2); (try clear hk); (try clear hi)))
  (try simp only [Act.put, List.setIfInBounds_toArray, List.set_cons_zero, List.set_cons_succ])
  go_cut [15] (fun v15 wc => ∃ (kq : Nat) (x15_2 : Bool), v15 = .bool x15_2 ∧ Aside0 (colloquylaw04_CommandGets.j0 kq l0 t204 x15_2 = some r) ∧ Aside0 (kq ≤ k) ∧ Aside0 (Below w.heap.size w wc))
  case first =>
    have H := HC3.out
    clear HC3
    by_cases c5 : t204 = true
    · subst c5
      have H1 : (colloquylaw04_CommandGets.j0 k l0 true (decide ((l0.length : Int) > 2000))) = some r := by rw [if_pos rfl] at H; exact H
      clear H
      have H := H1
      clear H1
      have H' := Aside0.mk H
      clear H
      go_wp2
      go_meet
      case rel => exact ⟨_, (decide ((l0.length : Int) > 2000)), (by first | rfl | (simp; done) | (simp [*]; done)), H', ⟨by first | omega | exact Nat.le_refl _⟩, ⟨by repeat (first | (with_reducible first | exact HB.out | apply below_alloc | apply pw_below_drewN | apply below_drew1) | exact HB.out)⟩⟩
    · replace c5 := Bool.eq_false_iff.mpr c5
      subst c5
      have H1 : (colloquylaw04_CommandGets.j0 k l0 false true) = some r := by rw [if_neg (show ¬ (false = true) by decide)] at H; exact H
      clear H
      have H := H1
      clear H1
      have H' := Aside0.mk H
      clear H
      go_wp2
      go_meet
      case rel => exact ⟨_, (true), (by first | rfl | (simp; done) | (simp [*]; done)), H', ⟨by first | omega | exact Nat.le_refl _⟩, ⟨by repeat (first | (with_reducible first | exact HB.out | apply below_alloc | apply pw_below_drewN | apply below_drew1) | exact HB.out)⟩⟩
  case rest =>
    clear HC3
    try clear p2
    try clear c5
    obtain ⟨kq, x15_2, rfl, HA, HJ2, HB⟩ := hcut
    cases kq with
    | zero => exact absurd HA.out (by simp [colloquylaw04_CommandGets.j0])
    | succ kj2 =>
      have H := HA.out
      clear HA
      simp only [colloquylaw04_CommandGets.j0] at H
      by_cases c6 : x15_2 = true
      · subst c6
        have H1 : (some t204) = some r := by rw [if_pos rfl] at H; exact H
        clear H
        have H := H1
        clear H1
        obtain rfl := Option.some.inj H
        go_wp2
        go_ret
        exact ⟨by first | rfl | (simp [errW_none, errW_some] <;> rfl) | (simp [*, errW_none, errW_some] <;> rfl), by repeat (first | (with_reducible first | exact HB.out | apply below_alloc | apply pw_below_drewN | apply below_drew1) | exact HB.out)⟩
      · replace c6 := Bool.eq_false_iff.mpr c6
        subst c6
        have H1 : ((command_Get.f kj2 l0).bind fun bt205 => ((colloquyref04_Get.f kj2 l0).bind fun bt213 => (if (bt205.1 == bt213.1 && (bt205.2.1 == bt213.2.1 && (bt205.2.2.1 == bt213.2.2.1 && (bt205.2.2.2.1 == bt213.2.2.2.1 && (bt205.2.2.2.2.1 == bt213.2.2.2.2.1 && (bt205.2.2.2.2.2.1.toList == bt213.2.2.2.2.2.1.toList)))))) = true then (some (bt205.2.2.2.2.2.2 == bt213.2.2.2.2.2.2)) else (some false)))) = some r := by rw [if_neg (show ¬ (false = true) by decide)] at H; exact H
        clear H
        have H := H1
        clear H1
        replace H := Option.bind_eq_some_iff.mp H
        obtain ⟨⟨t205, t206, t207, t208, t209, t210, t211⟩, A70, H⟩ := H
        replace H : ((colloquyref04_Get.f kj2 l0).bind fun bt213 => (if (t205 == bt213.1 && (t206 == bt213.2.1 && (t207 == bt213.2.2.1 && (t208 == bt213.2.2.2.1 && (t209 == bt213.2.2.2.2.1 && (t210.toList == bt213.2.2.2.2.2.1.toList)))))) = true then (some (t211 == bt213.2.2.2.2.2.2)) else (some false))) = some r := H
        have A7 := Aside0.mk A70
        clear A70
        replace H := Option.bind_eq_some_iff.mp H
        obtain ⟨⟨t213, t214, t215, t216, t217, t218, t219⟩, A80, H⟩ := H
        replace H : (if (t205 == t213 && (t206 == t214 && (t207 == t215 && (t208 == t216 && (t209 == t217 && (t210.toList == t218.toList)))))) = true then (some (t211 == t219)) else (some false)) = some r := H
        have A8 := Aside0.mk A80
        clear A80
        by_cases c9 : (t205 == t213 && (t206 == t214 && (t207 == t215 && (t208 == t216 && (t209 == t217 && (t210.toList == t218.toList)))))) = true
        · rw [if_pos c9] at H
          have c9b0 : (t205 == t213 && (t206 == t214 && (t207 == t215 && (t208 == t216 && (t209 == t217 && (t210.toList == t218.toList)))))) = true := c9
          (try (have c9b1 : decide (t205 = t213 && (t206 == t214 && (t207 == t215 && (t208 == t216 && (t209 == t217 && (t210.toList == t218.toList)))))) = true := by simpa using c9))
          (try (have c9b2 : (t205 == t213 && (t206 == t214 && (t207 == t215 && (t208 == t216 && (t209 == t217 && (t210.toList == t218.toList)))))) = true := by simpa using c9))
          clear c9
          obtain rfl := Option.some.inj H
          go_wp2_with (first | ((with_reducible refine gate_callee (f := 16) rfl ?_); refine goesL_ (some 19) rfl rfl Try.func16 (by kernel_rfl) rfl #[.slice A0 l0.length c0] rfl (by (try simp only [List.map_toArray, List.map_cons, List.map_nil]); first | done | rfl | (simp only [List.length_drop, List.length_take]; rfl)) ?_; (with_reducible refine (command_Get.calls kj2 _ _ l0 t205 t206 t207 t208 t209 t210 t211 _ ?side1 ?side2 A7.out).mono ?_); (case side1 => repeat (first | exact (Kd.C_below HR0.out HB.out) | (with_reducible refine Kd.C_alloc ?_ _) | (with_reducible refine Kd.C_drewN ?_ _) | (with_reducible refine Kd.C_drew ?_))); (case side2 => exact HC0.out); rintro e w10 ⟨rfl, hb⟩; refine ⟨_, rfl, ?_⟩; have n0_ := Aside0.mk (below_step (by repeat (first | (with_reducible first | exact HB.out | apply below_alloc | apply pw_below_drewN | apply below_drew1) | exact HB.out)) hb); clear HB; have HB := n0_; clear n0_; (try clear hb); (try clear hb2); (try clear hk); (try clear hi)) | ((with_reducible refine gate_dst (N := 4) rfl ?_); (try (refine gate_guard (by rfl) ?_; dsimp only)); refine box_event ?hg (N := 4) ?hd (cs := #[.int .i64 0, .int .i64 0, .int .i64 0, .int .i64 0, .int .i64 0, .string (⟨#[]⟩ : ByteArray)]) (t := 23) ?hr ?_; (case hd => rfl); (case hg => rfl); (case hr => first | (go_simp; done) | (go_simp; rfl)); intro gb212 hg w11 hbox hb; have n0_ := Aside0.mk (below_step (by repeat (first | (with_reducible first | exact HB.out | apply below_alloc | apply pw_below_drewN | apply below_drew1) | exact HB.out)) hb); have n1_ := Aside0.mk (hbox); have n2_ := Aside0.mk ((by rw [hg]; exact (below_size (by repeat (first | (with_reducible first | exact HB.out | apply below_alloc | apply pw_below_drewN | apply below_drew1) | exact HB.out))) : w.heap.size ≤ gb212)); have n3_ := Aside0.mk ((by rw [hg]; exact (below_size (by repeat (first | (with_reducible first | exact HB.out | apply below_alloc | apply pw_below_drewN | apply below_drew1) | exact HB.out))) : w.heap.size ≤ gb212)); clear HB; have HB := n0_; have BK212 := n1_; have GW212 := n2_; have GE212 := n3_; clear n0_ n1_ n2_ n3_; clear hb hbox hg; have hcz12_0 : w11.cell? ⟨gb212, 0, none⟩ = some (.int .i64 0) := (blk_cell BK212.out 0).trans rfl; have hcz12_1 : w11.cell? ⟨gb212, 1, none⟩ = some (.int .i64 0) := (blk_cell BK212.out 1).trans rfl; have hcz12_2 : w11.cell? ⟨gb212, 2, none⟩ = some (.int .i64 0) := (blk_cell BK212.out 2).trans rfl; have hcz12_3 : w11.cell? ⟨gb212, 3, none⟩ = some (.int .i64 0) := (blk_cell BK212.out 3).trans rfl; have hcz12_4 : w11.cell? ⟨gb212, 4, none⟩ = some (.int .i64 0) := (blk_cell BK212.out 4).trans rfl; have hcz12_5 : w11.cell? ⟨gb212, 5, none⟩ = some (.string (⟨#[]⟩ : ByteArray)) := (blk_cell BK212.out 5).trans rfl; have hfz12_0 := blk_frozen BK212.out 0; have hfz12_1 := blk_frozen BK212.out 1; have hfz12_2 := blk_frozen BK212.out 2; have hfz12_3 := blk_frozen BK212.out 3; have hfz12_4 := blk_frozen BK212.out 4; have hfz12_5 := blk_frozen BK212.out 5) | ((with_reducible refine gate_callee (f := 17) rfl ?_); refine goesL_ (some 24) rfl rfl Try.func17 (by kernel_rfl) rfl #[.slice A0 l0.length c0] rfl (by (try simp only [List.map_toArray, List.map_cons, List.map_nil]); first | done | rfl | (simp only [List.length_drop, List.length_take]; rfl)) ?_; (with_reducible refine (colloquyref04_Get.calls kj2 _ _ l0 t213 t214 t215 t216 t217 t218 t219 _ ?side1 ?side2 A8.out).mono ?_); (case side1 => exact Kd.C_below HR0.out (by repeat (first | (with_reducible first | exact HB.out | apply below_alloc | apply pw_below_drewN | apply below_drew1 | refine below_set ?_ GE212.out) | exact HB.out))); (case side2 => exact HC0.out); rintro e w13 ⟨rfl, hb⟩; refine ⟨_, rfl, ?_⟩; have n0_ := Aside0.mk (blk_below (g := gb212) (o := .cells #[.int .i64 t205, .int .i64 t206, .int .i64 t207, .int .i64 t208, .int .i64 t209, .string t210] 23 (0, 0)) (by (with_reducible repeat (first | refine blk_drewN ?_ _ | refine blk_drew ?_ | refine blk_alloc ?_ _)); refine blk_put (cs := #[.int .i64 t205, .int .i64 t206, .int .i64 t207, .int .i64 t208, .int .i64 t209, .string (⟨#[]⟩ : ByteArray)]) ?_ 5 _ rfl; (with_reducible repeat (first | refine blk_drewN ?_ _ | refine blk_drew ?_ | refine blk_alloc ?_ _)); refine blk_put (cs := #[.int .i64 t205, .int .i64 t206, .int .i64 t207, .int .i64 t208, .int .i64 0, .string (⟨#[]⟩ : ByteArray)]) ?_ 4 _ rfl; (with_reducible repeat (first | refine blk_drewN ?_ _ | refine blk_drew ?_ | refine blk_alloc ?_ _)); refine blk_put (cs := #[.int .i64 t205, .int .i64 t206, .int .i64 t207, .int .i64 0, .int .i64 0, .string (⟨#[]⟩ : ByteArray)]) ?_ 3 _ rfl; (with_reducible repeat (first | refine blk_drewN ?_ _ | refine blk_drew ?_ | refine blk_alloc ?_ _)); refine blk_put (cs := #[.int .i64 t205, .int .i64 t206, .int .i64 0, .int .i64 0, .int .i64 0, .string (⟨#[]⟩ : ByteArray)]) ?_ 2 _ rfl; (with_reducible repeat (first | refine blk_drewN ?_ _ | refine blk_drew ?_ | refine blk_alloc ?_ _)); refine blk_put (cs := #[.int .i64 t205, .int .i64 0, .int .i64 0, .int .i64 0, .int .i64 0, .string (⟨#[]⟩ : ByteArray)]) ?_ 1 _ rfl; (with_reducible repeat (first | refine blk_drewN ?_ _ | refine blk_drew ?_ | refine blk_alloc ?_ _)); refine blk_put (cs := #[.int .i64 0, .int .i64 0, .int .i64 0, .int .i64 0, .int .i64 0, .string (⟨#[]⟩ : ByteArray)]) ?_ 0 _ rfl; (with_reducible repeat (first | refine blk_drewN ?_ _ | refine blk_drew ?_ | refine blk_alloc ?_ _)); exact BK212.out) hb); have n1_ := Aside0.mk (below_step (by repeat (first | (with_reducible first | exact HB.out | apply below_alloc | apply pw_below_drewN | apply below_drew1 | refine below_set ?_ GE212.out) | exact HB.out)) hb); clear BK212; clear HB; have BK212 := n0_; have HB := n1_; clear n0_ n1_; (try clear hb); (try clear hb2); (try clear hk); (try clear hi)) | ((with_reducible refine gate_dst (N := 6) rfl ?_); (try (refine gate_guard (by rfl) ?_; dsimp only)); refine box_event ?hg (N := 6) ?hd (cs := #[.int .i64 0, .int .i64 0, .int .i64 0, .int .i64 0, .int .i64 0, .string (⟨#[]⟩ : ByteArray)]) (t := 23) ?hr ?_; (case hd => rfl); (case hg => rfl); (case hr => first | (go_simp; done) | (go_simp; rfl)); intro gb220 hg w14 hbox hb; have n0_ := Aside0.mk (blk_below (g := gb212) (o := .cells #[.int .i64 t205, .int .i64 t206, .int .i64 t207, .int .i64 t208, .int .i64 t209, .string t210] 23 (0, 0)) (by (with_reducible repeat (first | refine blk_drewN ?_ _ | refine blk_drew ?_ | refine blk_alloc ?_ _)); exact BK212.out) hb); have n1_ := Aside0.mk (below_step (by repeat (first | (with_reducible first | exact HB.out | apply below_alloc | apply pw_below_drewN | apply below_drew1 | refine below_set ?_ GE212.out) | exact HB.out)) hb); have n2_ := Aside0.mk (hbox); have n3_ := Aside0.mk ((by rw [hg]; exact (below_size (by repeat (first | (with_reducible first | exact HB.out | apply below_alloc | apply pw_below_drewN | apply below_drew1 | refine below_set ?_ GE212.out) | exact HB.out))) : w.heap.size ≤ gb220)); have n4_ := Aside0.mk ((by rw [hg]; exact (below_size (by repeat (first | (with_reducible first | exact HB.out | apply below_alloc | apply pw_below_drewN | apply below_drew1 | refine below_set ?_ GE212.out) | exact HB.out))) : w.heap.size ≤ gb220)); have n5_ := Aside0.mk ((by rw [hg]; exact Nat.ne_of_lt (blk_lt (g := gb212) (o := .cells #[.int .i64 t205, .int .i64 t206, .int .i64 t207, .int .i64 t208, .int .i64 t209, .string t210] 23 (0, 0)) (by (with_reducible repeat (first | refine blk_drewN ?_ _ | refine blk_drew ?_ | refine blk_alloc ?_ _)); exact BK212.out)) : gb212 ≠ gb220)); have n6_ := Aside0.mk ((by rw [hg]; exact Nat.ne_of_gt (blk_lt (g := gb212) (o := .cells #[.int .i64 t205, .int .i64 t206, .int .i64 t207, .int .i64 t208, .int .i64 t209, .string t210] 23 (0, 0)) (by (with_reducible repeat (first | refine blk_drewN ?_ _ | refine blk_drew ?_ | refine blk_alloc ?_ _)); exact BK212.out)) : gb220 ≠ gb212)); clear BK212; clear HB; have BK212 := n0_; have HB := n1_; have BK220 := n2_; have GW220 := n3_; have GE220 := n4_; have NB212_220 := n5_; have NB220_212 := n6_; clear n0_ n1_ n2_ n3_ n4_ n5_ n6_; clear hb hbox hg; have hnb15 := NB220_212.out; have hnc15 := NB212_220.out; have hcz16_0 : w14.cell? ⟨gb220, 0, none⟩ = some (.int .i64 0) := (blk_cell BK220.out 0).trans rfl; have hcz16_1 : w14.cell? ⟨gb220, 1, none⟩ = some (.int .i64 0) := (blk_cell BK220.out 1).trans rfl; have hcz16_2 : w14.cell? ⟨gb220, 2, none⟩ = some (.int .i64 0) := (blk_cell BK220.out 2).trans rfl; have hcz16_3 : w14.cell? ⟨gb220, 3, none⟩ = some (.int .i64 0) := (blk_cell BK220.out 3).trans rfl; have hcz16_4 : w14.cell? ⟨gb220, 4, none⟩ = some (.int .i64 0) := (blk_cell BK220.out 4).trans rfl; have hcz16_5 : w14.cell? ⟨gb220, 5, none⟩ = some (.string (⟨#[]⟩ : ByteArray)) := (blk_cell BK220.out 5).trans rfl; have hfz16_0 := blk_frozen BK220.out 0; have hfz16_1 := blk_frozen BK220.out 1; have hfz16_2 := blk_frozen BK220.out 2; have hfz16_3 := blk_frozen BK220.out 3; have hfz16_4 := blk_frozen BK220.out 4; have hfz16_5 := blk_frozen BK220.out 5; have hcz17_0 : w14.cell? ⟨gb212, 0, none⟩ = some (.int .i64 t205) := (blk_cell BK212.out 0).trans rfl; have hcz17_1 : w14.cell? ⟨gb212, 1, none⟩ = some (.int .i64 t206) := (blk_cell BK212.out 1).trans rfl; have hcz17_2 : w14.cell? ⟨gb212, 2, none⟩ = some (.int .i64 t207) := (blk_cell BK212.out 2).trans rfl; have hcz17_3 : w14.cell? ⟨gb212, 3, none⟩ = some (.int .i64 t208) := (blk_cell BK212.out 3).trans rfl; have hcz17_4 : w14.cell? ⟨gb212, 4, none⟩ = some (.int .i64 t209) := (blk_cell BK212.out 4).trans rfl; have hcz17_5 : w14.cell? ⟨gb212, 5, none⟩ = some (.string t210) := (blk_cell BK212.out 5).trans rfl; have hfz17_0 := blk_frozen BK212.out 0; have hfz17_1 := blk_frozen BK212.out 1; have hfz17_2 := blk_frozen BK212.out 2; have hfz17_3 := blk_frozen BK212.out 3; have hfz17_4 := blk_frozen BK212.out 4; have hfz17_5 := blk_frozen BK212.out 5))
          go_ret
          exact ⟨by first | rfl | (simp [errW_none, errW_some] <;> rfl) | (simp [*, errW_none, errW_some] <;> rfl), by repeat (first | (with_reducible first | exact HB.out | apply below_alloc | apply pw_below_drewN | apply below_drew1 | refine below_set ?_ GE212.out | refine below_set ?_ GE220.out) | exact HB.out)⟩
        · rw [if_neg c9] at H
          have c9b0 : (t205 == t213 && (t206 == t214 && (t207 == t215 && (t208 == t216 && (t209 == t217 && (t210.toList == t218.toList)))))) = false := by simpa using c9
          (try (have c9b1 : decide (t205 = t213 && (t206 == t214 && (t207 == t215 && (t208 == t216 && (t209 == t217 && (t210.toList == t218.toList)))))) = false := by simpa using c9))
          (try (have c9b2 : (t205 == t213 && (t206 == t214 && (t207 == t215 && (t208 == t216 && (t209 == t217 && (t210.toList == t218.toList)))))) = false := by simpa using c9))
          (try (have c9b3 : ¬ (t205 = t213 && (t206 == t214 && (t207 == t215 && (t208 == t216 && (t209 == t217 && (t210.toList == t218.toList)))))) := by simpa using c9))
          clear c9
          obtain rfl := Option.some.inj H
          go_wp2_with (first | ((with_reducible refine gate_callee (f := 16) rfl ?_); refine goesL_ (some 19) rfl rfl Try.func16 (by kernel_rfl) rfl #[.slice A0 l0.length c0] rfl (by (try simp only [List.map_toArray, List.map_cons, List.map_nil]); first | done | rfl | (simp only [List.length_drop, List.length_take]; rfl)) ?_; (with_reducible refine (command_Get.calls kj2 _ _ l0 t205 t206 t207 t208 t209 t210 t211 _ ?side1 ?side2 A7.out).mono ?_); (case side1 => repeat (first | exact (Kd.C_below HR0.out HB.out) | (with_reducible refine Kd.C_alloc ?_ _) | (with_reducible refine Kd.C_drewN ?_ _) | (with_reducible refine Kd.C_drew ?_))); (case side2 => exact HC0.out); rintro e w18 ⟨rfl, hb⟩; refine ⟨_, rfl, ?_⟩; have n0_ := Aside0.mk (below_step (by repeat (first | (with_reducible first | exact HB.out | apply below_alloc | apply pw_below_drewN | apply below_drew1) | exact HB.out)) hb); clear HB; have HB := n0_; clear n0_; (try clear hb); (try clear hb2); (try clear hk); (try clear hi)) | ((with_reducible refine gate_dst (N := 4) rfl ?_); (try (refine gate_guard (by rfl) ?_; dsimp only)); refine box_event ?hg (N := 4) ?hd (cs := #[.int .i64 0, .int .i64 0, .int .i64 0, .int .i64 0, .int .i64 0, .string (⟨#[]⟩ : ByteArray)]) (t := 23) ?hr ?_; (case hd => rfl); (case hg => rfl); (case hr => first | (go_simp; done) | (go_simp; rfl)); intro gb212 hg w19 hbox hb; have n0_ := Aside0.mk (below_step (by repeat (first | (with_reducible first | exact HB.out | apply below_alloc | apply pw_below_drewN | apply below_drew1) | exact HB.out)) hb); have n1_ := Aside0.mk (hbox); have n2_ := Aside0.mk ((by rw [hg]; exact (below_size (by repeat (first | (with_reducible first | exact HB.out | apply below_alloc | apply pw_below_drewN | apply below_drew1) | exact HB.out))) : w.heap.size ≤ gb212)); have n3_ := Aside0.mk ((by rw [hg]; exact (below_size (by repeat (first | (with_reducible first | exact HB.out | apply below_alloc | apply pw_below_drewN | apply below_drew1) | exact HB.out))) : w.heap.size ≤ gb212)); clear HB; have HB := n0_; have BK212 := n1_; have GW212 := n2_; have GE212 := n3_; clear n0_ n1_ n2_ n3_; clear hb hbox hg; have hcz20_0 : w19.cell? ⟨gb212, 0, none⟩ = some (.int .i64 0) := (blk_cell BK212.out 0).trans rfl; have hcz20_1 : w19.cell? ⟨gb212, 1, none⟩ = some (.int .i64 0) := (blk_cell BK212.out 1).trans rfl; have hcz20_2 : w19.cell? ⟨gb212, 2, none⟩ = some (.int .i64 0) := (blk_cell BK212.out 2).trans rfl; have hcz20_3 : w19.cell? ⟨gb212, 3, none⟩ = some (.int .i64 0) := (blk_cell BK212.out 3).trans rfl; have hcz20_4 : w19.cell? ⟨gb212, 4, none⟩ = some (.int .i64 0) := (blk_cell BK212.out 4).trans rfl; have hcz20_5 : w19.cell? ⟨gb212, 5, none⟩ = some (.string (⟨#[]⟩ : ByteArray)) := (blk_cell BK212.out 5).trans rfl; have hfz20_0 := blk_frozen BK212.out 0; have hfz20_1 := blk_frozen BK212.out 1; have hfz20_2 := blk_frozen BK212.out 2; have hfz20_3 := blk_frozen BK212.out 3; have hfz20_4 := blk_frozen BK212.out 4; have hfz20_5 := blk_frozen BK212.out 5) | ((with_reducible refine gate_callee (f := 17) rfl ?_); refine goesL_ (some 24) rfl rfl Try.func17 (by kernel_rfl) rfl #[.slice A0 l0.length c0] rfl (by (try simp only [List.map_toArray, List.map_cons, List.map_nil]); first | done | rfl | (simp only [List.length_drop, List.length_take]; rfl)) ?_; (with_reducible refine (colloquyref04_Get.calls kj2 _ _ l0 t213 t214 t215 t216 t217 t218 t219 _ ?side1 ?side2 A8.out).mono ?_); (case side1 => exact Kd.C_below HR0.out (by repeat (first | (with_reducible first | exact HB.out | apply below_alloc | apply pw_below_drewN | apply below_drew1 | refine below_set ?_ GE212.out) | exact HB.out))); (case side2 => exact HC0.out); rintro e w21 ⟨rfl, hb⟩; refine ⟨_, rfl, ?_⟩; have n0_ := Aside0.mk (blk_below (g := gb212) (o := .cells #[.int .i64 t205, .int .i64 t206, .int .i64 t207, .int .i64 t208, .int .i64 t209, .string t210] 23 (0, 0)) (by (with_reducible repeat (first | refine blk_drewN ?_ _ | refine blk_drew ?_ | refine blk_alloc ?_ _)); refine blk_put (cs := #[.int .i64 t205, .int .i64 t206, .int .i64 t207, .int .i64 t208, .int .i64 t209, .string (⟨#[]⟩ : ByteArray)]) ?_ 5 _ rfl; (with_reducible repeat (first | refine blk_drewN ?_ _ | refine blk_drew ?_ | refine blk_alloc ?_ _)); refine blk_put (cs := #[.int .i64 t205, .int .i64 t206, .int .i64 t207, .int .i64 t208, .int .i64 0, .string (⟨#[]⟩ : ByteArray)]) ?_ 4 _ rfl; (with_reducible repeat (first | refine blk_drewN ?_ _ | refine blk_drew ?_ | refine blk_alloc ?_ _)); refine blk_put (cs := #[.int .i64 t205, .int .i64 t206, .int .i64 t207, .int .i64 0, .int .i64 0, .string (⟨#[]⟩ : ByteArray)]) ?_ 3 _ rfl; (with_reducible repeat (first | refine blk_drewN ?_ _ | refine blk_drew ?_ | refine blk_alloc ?_ _)); refine blk_put (cs := #[.int .i64 t205, .int .i64 t206, .int .i64 0, .int .i64 0, .int .i64 0, .string (⟨#[]⟩ : ByteArray)]) ?_ 2 _ rfl; (with_reducible repeat (first | refine blk_drewN ?_ _ | refine blk_drew ?_ | refine blk_alloc ?_ _)); refine blk_put (cs := #[.int .i64 t205, .int .i64 0, .int .i64 0, .int .i64 0, .int .i64 0, .string (⟨#[]⟩ : ByteArray)]) ?_ 1 _ rfl; (with_reducible repeat (first | refine blk_drewN ?_ _ | refine blk_drew ?_ | refine blk_alloc ?_ _)); refine blk_put (cs := #[.int .i64 0, .int .i64 0, .int .i64 0, .int .i64 0, .int .i64 0, .string (⟨#[]⟩ : ByteArray)]) ?_ 0 _ rfl; (with_reducible repeat (first | refine blk_drewN ?_ _ | refine blk_drew ?_ | refine blk_alloc ?_ _)); exact BK212.out) hb); have n1_ := Aside0.mk (below_step (by repeat (first | (with_reducible first | exact HB.out | apply below_alloc | apply pw_below_drewN | apply below_drew1 | refine below_set ?_ GE212.out) | exact HB.out)) hb); clear BK212; clear HB; have BK212 := n0_; have HB := n1_; clear n0_ n1_; (try clear hb); (try clear hb2); (try clear hk); (try clear hi)) | ((with_reducible refine gate_dst (N := 6) rfl ?_); (try (refine gate_guard (by rfl) ?_; dsimp only)); refine box_event ?hg (N := 6) ?hd (cs := #[.int .i64 0, .int .i64 0, .int .i64 0, .int .i64 0, .int .i64 0, .string (⟨#[]⟩ : ByteArray)]) (t := 23) ?hr ?_; (case hd => rfl); (case hg => rfl); (case hr => first | (go_simp; done) | (go_simp; rfl)); intro gb220 hg w22 hbox hb; have n0_ := Aside0.mk (blk_below (g := gb212) (o := .cells #[.int .i64 t205, .int .i64 t206, .int .i64 t207, .int .i64 t208, .int .i64 t209, .string t210] 23 (0, 0)) (by (with_reducible repeat (first | refine blk_drewN ?_ _ | refine blk_drew ?_ | refine blk_alloc ?_ _)); exact BK212.out) hb); have n1_ := Aside0.mk (below_step (by repeat (first | (with_reducible first | exact HB.out | apply below_alloc | apply pw_below_drewN | apply below_drew1 | refine below_set ?_ GE212.out) | exact HB.out)) hb); have n2_ := Aside0.mk (hbox); have n3_ := Aside0.mk ((by rw [hg]; exact (below_size (by repeat (first | (with_reducible first | exact HB.out | apply below_alloc | apply pw_below_drewN | apply below_drew1 | refine below_set ?_ GE212.out) | exact HB.out))) : w.heap.size ≤ gb220)); have n4_ := Aside0.mk ((by rw [hg]; exact (below_size (by repeat (first | (with_reducible first | exact HB.out | apply below_alloc | apply pw_below_drewN | apply below_drew1 | refine below_set ?_ GE212.out) | exact HB.out))) : w.heap.size ≤ gb220)); have n5_ := Aside0.mk ((by rw [hg]; exact Nat.ne_of_lt (blk_lt (g := gb212) (o := .cells #[.int .i64 t205, .int .i64 t206, .int .i64 t207, .int .i64 t208, .int .i64 t209, .string t210] 23 (0, 0)) (by (with_reducible repeat (first | refine blk_drewN ?_ _ | refine blk_drew ?_ | refine blk_alloc ?_ _)); exact BK212.out)) : gb212 ≠ gb220)); have n6_ := Aside0.mk ((by rw [hg]; exact Nat.ne_of_gt (blk_lt (g := gb212) (o := .cells #[.int .i64 t205, .int .i64 t206, .int .i64 t207, .int .i64 t208, .int .i64 t209, .string t210] 23 (0, 0)) (by (with_reducible repeat (first | refine blk_drewN ?_ _ | refine blk_drew ?_ | refine blk_alloc ?_ _)); exact BK212.out)) : gb220 ≠ gb212)); clear BK212; clear HB; have BK212 := n0_; have HB := n1_; have BK220 := n2_; have GW220 := n3_; have GE220 := n4_; have NB212_220 := n5_; have NB220_212 := n6_; clear n0_ n1_ n2_ n3_ n4_ n5_ n6_; clear hb hbox hg; have hnb23 := NB220_212.out; have hnc23 := NB212_220.out; have hcz24_0 : w22.cell? ⟨gb220, 0, none⟩ = some (.int .i64 0) := (blk_cell BK220.out 0).trans rfl; have hcz24_1 : w22.cell? ⟨gb220, 1, none⟩ = some (.int .i64 0) := (blk_cell BK220.out 1).trans rfl; have hcz24_2 : w22.cell? ⟨gb220, 2, none⟩ = some (.int .i64 0) := (blk_cell BK220.out 2).trans rfl; have hcz24_3 : w22.cell? ⟨gb220, 3, none⟩ = some (.int .i64 0) := (blk_cell BK220.out 3).trans rfl; have hcz24_4 : w22.cell? ⟨gb220, 4, none⟩ = some (.int .i64 0) := (blk_cell BK220.out 4).trans rfl; have hcz24_5 : w22.cell? ⟨gb220, 5, none⟩ = some (.string (⟨#[]⟩ : ByteArray)) := (blk_cell BK220.out 5).trans rfl; have hfz24_0 := blk_frozen BK220.out 0; have hfz24_1 := blk_frozen BK220.out 1; have hfz24_2 := blk_frozen BK220.out 2; have hfz24_3 := blk_frozen BK220.out 3; have hfz24_4 := blk_frozen BK220.out 4; have hfz24_5 := blk_frozen BK220.out 5; have hcz25_0 : w22.cell? ⟨gb212, 0, none⟩ = some (.int .i64 t205) := (blk_cell BK212.out 0).trans rfl; have hcz25_1 : w22.cell? ⟨gb212, 1, none⟩ = some (.int .i64 t206) := (blk_cell BK212.out 1).trans rfl; have hcz25_2 : w22.cell? ⟨gb212, 2, none⟩ = some (.int .i64 t207) := (blk_cell BK212.out 2).trans rfl; have hcz25_3 : w22.cell? ⟨gb212, 3, none⟩ = some (.int .i64 t208) := (blk_cell BK212.out 3).trans rfl; have hcz25_4 : w22.cell? ⟨gb212, 4, none⟩ = some (.int .i64 t209) := (blk_cell BK212.out 4).trans rfl; have hcz25_5 : w22.cell? ⟨gb212, 5, none⟩ = some (.string t210) := (blk_cell BK212.out 5).trans rfl; have hfz25_0 := blk_frozen BK212.out 0; have hfz25_1 := blk_frozen BK212.out 1; have hfz25_2 := blk_frozen BK212.out 2; have hfz25_3 := blk_frozen BK212.out 3; have hfz25_4 := blk_frozen BK212.out 4; have hfz25_5 := blk_frozen BK212.out 5))
          go_ret
          exact ⟨by first | rfl | (simp [errW_none, errW_some] <;> rfl) | (simp [*, errW_none, errW_some] <;> rfl), by repeat (first | (with_reducible first | exact HB.out | apply below_alloc | apply pw_below_drewN | apply below_drew1 | refine below_set ?_ GE212.out | refine below_set ?_ GE220.out) | exact HB.out)⟩

/-- THE ONE PURE STATEMENT of colloquylaw04_CommandGets: yours. -/
def colloquylaw04_CommandGets.Pure : Prop := ∀ (l0 : List Int), l0.length ≤ maxLen → l0.length * 1 ≤ 140737488351232 → (∀ x ∈ l0, (Lit.int .u8 x).wf = true) → ∃ k, colloquylaw04_CommandGets.f k l0 = some true
theorem colloquylaw04_CommandGets.walk (P : colloquylaw04_CommandGets.Pure) (a0 : Option Addr) (len0 cap0 : Nat) (z0 : List Int) (w : World) (w0 : (a0 = none ∧ len0 = 0 ∧ cap0 = 0 ∧ z0 = []) ∨ ∃ x, a0 = some x ∧ len0 ≤ cap0 ∧ cap0 ≤ maxLen ∧ z0.length = cap0 ∧ (∀ i, i < z0.length → w.cell? (x.add i) = some (.int .u8 (z0.getD i 0))) ∧ ∀ n ∈ z0, (Lit.int .u8 n).wf = true) (y0 : len0 * 1 ≤ 140737488351232) :
    Calls Try.prog 6 #[.slice a0 len0 cap0] w fun e w' => e = .returned (.bool true) ∧ Below w.heap.size w w' := by
  obtain ⟨l0, rfl, hr0, hm0, hw0, hc0⟩ := ReadsInt.ofRowC w0
  obtain ⟨k, h⟩ := P l0 hm0 y0 hw0
  refine (colloquylaw04_CommandGets.calls k _ _ l0 true w (Kd.C_of_reads (d := (0 : Int)) (h1 := fun _ => rfl) hr0) hc0 h).mono ?_
  rintro e w' ⟨rfl, hd⟩
  exact ⟨rfl, hd⟩

end Go.Proofs.Ythkipipfdlepnaa.PAll
