/- The machine's side of this claim, written by a program of this session out of the translation: for each Go function a Lean function of its answers, and the proof that the code comes to just these. Conditions: those that each theorem states. -/
import Derived.Test.YthkipipfdlepnaaPAllx0
import Derived.Test.YthkipipfdlepnaaPAllx2
import Derived.Test.YthkipipfdlepnaaPAllx3
namespace Go.Proofs.Ythkipipfdlepnaa.PAll
open Go.RowKit Go.Proofs.YthkipipfdlepnaaW.PrintWords Go.Proofs.YthkipipfdlepnaaW.PrintLast Go.Proofs.YthkipipfdlepnaaW.PrintMore
attribute [local go_sem] max2_int min2_int max_two min_two max_three min_three max_four min_four   -- for this text's walks alone
set_option linter.unusedVariables false
set_option linter.unusedSimpArgs false

attribute [local go_sem high] eqA36
/-! ### vlq_PutAll: function 20 -/
def vlq_PutAll.l0 : Nat → List Int → List Int → Int → Int → Option (List Int × Int)
  | 0, _, _, _, _ => none
  | k + 1, x4, x9, x10, x11 => if x11 < x10 then (if 0 ≤ x11 then (if x11 < (x9.length : Int) then ((vlq_Put.f k (rd x9 x11)).bind fun bt116 => (if bt116.2 = 0 then (if x4.length + bt116.1.length < 140737488355328 then (vlq_PutAll.l0 k (x4 ++ bt116.1) x9 x10 (wrap64 (x11 + 1))) else (none)) else (some (([] : List Int), bt116.2)))) else (none)) else (none)) else (some (x4, 0))
def vlq_PutAll.f (k : Nat) (l0 : List Int) : Option (List Int × Int) := vlq_PutAll.l0 k ([] : List Int) l0 (l0.length : Int) 0
theorem vlq_PutAll.mono_l : ∀ k, (∀ y0 y1 y2 y3, LeO (vlq_PutAll.l0 k y0 y1 y2 y3) (vlq_PutAll.l0 (k + 1) y0 y1 y2 y3))
  | 0 => fun _ _ _ _ r h => by simp [vlq_PutAll.l0] at h
  | k + 1 => by
    have ih0 := vlq_PutAll.mono_l k
    · intro y0 y1 y2 y3
      unfold vlq_PutAll.l0
      repeat' first
      | (with_reducible exact ih0 _ _ _ _)
      | (with_reducible exact vlq_Put.mono _ _)
      | (with_reducible exact LeO.refl _)
      | (with_reducible exact LeO.none _)
      | (with_reducible refine LeO.ite ?_ ?_)
      | (with_reducible refine LeO.bind ?_ (fun _ => ?_))
      | exact ih0 _ _ _ _
      | exact vlq_Put.mono _ _
      | exact LeO.none _
      | refine LeO.ite ?_ ?_
      | refine LeO.bind ?_ (fun _ => ?_)
theorem vlq_PutAll.mono : ∀ a0 k, LeO (vlq_PutAll.f k a0) (vlq_PutAll.f (k + 1) a0) := by
  intro a0 k
  have ih0 := vlq_PutAll.mono_l k
  unfold vlq_PutAll.f
  repeat' first
      | (with_reducible exact ih0 _ _ _ _)
      | (with_reducible exact vlq_Put.mono _ _)
      | (with_reducible exact LeO.refl _)
      | (with_reducible exact LeO.none _)
      | (with_reducible refine LeO.ite ?_ ?_)
      | (with_reducible refine LeO.bind ?_ (fun _ => ?_))
      | exact ih0 _ _ _ _
      | exact vlq_Put.mono _ _
      | exact LeO.none _
      | refine LeO.ite ?_ ?_
      | refine LeO.bind ?_ (fun _ => ?_)
set_option maxHeartbeats 8000000 in
set_option maxRecDepth 100000 in
theorem vlq_PutAll.calls (k : Nat) (A0 : Option Addr) (c0 : Nat) (l0 : List Int) (r1 : List Int) (r2 : Int) (w : World) (hr0 : Kd.C (Kd.int .i64) w A0 l0.length l0) (hc0 : l0.length ≤ c0) (h : vlq_PutAll.f k l0 = some (r1, r2)) :
    Calls Try.prog 20 #[.slice A0 l0.length c0] w fun e w' => ∃ v0_ : Value, e = .returned (.tuple #[v0_, .int .i64 r2]) ∧ Kd.R (Kd.int .u8) 5 w' w.heap.size (fun _ => True) v0_ r1 ∧ Below w.heap.size w w' := by
  have HR0 := Aside0.mk hr0
  have HC0 := Aside0.mk hc0
  clear hr0 hc0
  have HB := Aside0.mk (Below.refl w.heap.size w)
  have H : (vlq_PutAll.l0 k ([] : List Int) l0 (l0.length : Int) 0) = some (r1, r2) := h
  clear h
  have H' := Aside0.mk H
  clear H
  go_enter Try.func20, Try.ntmps20
  go_wp2
  go_loopg [4, 11] k (fun kq v4 v11 w' => ∃ (x4_1 : List Int) (x11_1 : Int), v11 = .int .i64 x11_1 ∧ Aside0 (vlq_PutAll.l0 kq x4_1 l0 (l0.length : Int) x11_1 = some (r1, r2)) ∧ Aside0 (kq ≤ k) ∧ Aside0 (Kd.R (Kd.int .u8) 5 w' w.heap.size (fun _ => True) v4 x4_1) ∧ Aside0 (Below w.heap.size w w'))
  case atStart => exact ⟨(([] : List Int)), (0), (by first | rfl | (simp; done) | (simp [*]; done)), H', ⟨Nat.le_refl _⟩, ⟨by first | exact Kd.R_nil _ _ _ _ _ | exact Kd.N_nil _ _ _ _ _ | exact Kd.V_nil _ _ _ _ _ | exact Kd.Q_nil _ _ _ _ _ | exact Kd.S_nil _ _ _ _ _⟩, ⟨by repeat (first | (with_reducible first | exact HB.out | apply below_alloc | apply pw_below_drewN | apply below_drew1) | exact HB.out)⟩⟩
  case round =>
    clear H'
    obtain ⟨x4_1, x11_1, rfl, HA, HK1, HO_4, HB⟩ := hrel
    cases gk with
    | zero => exact absurd HA.out (by simp [vlq_PutAll.l0])
    | succ k1 =>
      have H := HA.out
      clear HA
      simp only [vlq_PutAll.l0] at H
      by_cases c2 : x11_1 < (l0.length : Int)
      · rw [if_pos c2] at H
        have c2b0 : decide (x11_1 < (l0.length : Int)) = true := decide_eq_true c2
        clear c2
        by_cases c3 : 0 ≤ x11_1
        · rw [if_pos c3] at H
          have c3b0 : decide (0 ≤ x11_1) = true := decide_eq_true c3
          clear c3
          by_cases c4 : x11_1 < (l0.length : Int)
          · rw [if_pos c4] at H
            have c4b0 : decide (x11_1 < (l0.length : Int)) = true := decide_eq_true c4
            clear c4
            replace H := Option.bind_eq_some_iff.mp H
            obtain ⟨⟨t116, t117⟩, A50, H⟩ := H
            replace H : (if t117 = 0 then (if x4_1.length + t116.length < 140737488355328 then (vlq_PutAll.l0 k1 (x4_1 ++ t116) l0 (l0.length : Int) (wrap64 (x11_1 + 1))) else (none)) else (some (([] : List Int), t117))) = some (r1, r2) := H
            have A5 := Aside0.mk A50
            clear A50
            by_cases c6 : t117 = 0
            · rw [if_pos c6] at H
              have c6b0 : (t117 == 0) = true := beq_iff_eq.mpr c6
              have c6b1 : (t117 != 0) = false := bne_eq_false_iff_eq.mpr c6
              clear c6
              by_cases c7 : x4_1.length + t116.length < 140737488355328
              · rw [if_pos c7] at H
                have LMc7 := Aside0.mk c7
                clear c7
                obtain ⟨y120, hy120⟩ : ∃ y_ : List Int, y_ = (x4_1 ++ t116) := ⟨_, rfl⟩
                replace H : (vlq_PutAll.l0 k1 y120 l0 (l0.length : Int) (wrap64 (x11_1 + 1))) = some (r1, r2) := by first | (rw [hy120]; with_reducible exact H) | (have H2_ := (Option.bind_some _ _).symm.trans H; rw [hy120]; with_reducible exact H2_) | (have H2_ := (Option.bind_some _ _).symm.trans H; with_reducible exact H2_) | with_reducible exact H | (rw [hy120]; exact H) | exact H
                have Ny120 := Aside0.mk hy120
                clear hy120
                have H' := Aside0.mk H
                clear H
                have p115 : 0 ≤ (x11_1 : Int) := of_decide_eq_true (by first | (with_reducible assumption) | assumption)
                have q115 : x11_1 < (l0.length : Int) := of_decide_eq_true (by first | (with_reducible assumption) | assumption)
                obtain ⟨ad115, e115, hx115_0⟩ := Kd.at_int HR0.out x11_1 p115 q115
                cases e115
                replace hx115_0 := (HB.out.cell (World.block_lt_of_cell? w _ hx115_0)).trans hx115_0
                replace p115 := eq_true p115
                replace q115 := eq_true q115
                go_wp2_with (first | ((with_reducible refine gate_callee (f := 29) rfl ?_); refine goesL_ (some 17) rfl rfl Try.func29 (by kernel_rfl) rfl #[.int .i64 (rd l0 x11_1)] rfl (by (try simp only [List.map_toArray, List.map_cons, List.map_nil]); first | done | rfl | (simp only [List.length_drop, List.length_take]; rfl)) ?_; (with_reducible refine (vlq_Put.calls k1 (rd l0 x11_1) t116 t117 _ A5.out).mono ?_); rintro e w8 ⟨v118, rfl, ho0, hb⟩; refine ⟨_, rfl, ?_⟩; have n0_ := Aside0.mk (Kd.R_elder' (by (with_reducible repeat (first | apply Kd.R_alloc | apply Kd.R_drewN | apply Kd.R_drew)); exact HO_4.out) (Kd.R_base ho0) hb); have n1_ := Aside0.mk (Kd.R_lower (Kd.R_new' ho0 (Kd.R_lt (by (with_reducible repeat (first | apply Kd.R_alloc | apply Kd.R_drewN | apply Kd.R_drew)); exact HO_4.out))) (below_size (by repeat (first | (with_reducible first | exact HB.out | apply below_alloc | apply pw_below_drewN | apply below_drew1) | exact HB.out)))); have n2_ := Aside0.mk (below_step (by repeat (first | (with_reducible first | exact HB.out | apply below_alloc | apply pw_below_drewN | apply below_drew1) | exact HB.out)) hb); clear HO_4; clear HB; have HO_4 := n0_; have HO119 := n1_; have HB := n2_; clear n0_ n1_ n2_; (try clear hb); (try clear hb2); (try clear hk); (try clear hi); (try clear ho0); obtain ⟨Ao10, co10, eo10⟩ := Kd.R_slice HO119.out; subst eo10) | ((with_reducible refine gate_builtin (b := .append) (xs := #[.tmp 23, .tmp 24]) rfl ?_); at_builtin; refine Kd.R_append_rows (Kd.int .u8) (w0 := w) w.heap.size rfl (.tmp 23) (.tmp 24) 26 5 (.int .u8 0) 1 rfl Try.underlying26 info5 rfl (by decide) (by omega) u4 x4_1 t116 _ _ _ (fun k_ => some k_ ≠ (.slice Ao10 t116.length co10 : Value).ownBlock) (fun _ => False) rfl rfl ?aO ?aR (fun _ _ h => h) (fun _ h => h.elim) ?aF ?aB ?aS ?aL ?_; (case aR => repeat (first | exact (Kd.R_reads' HO119.out).2.2 | (with_reducible refine Kd.C_alloc ?_ _) | (with_reducible refine Kd.C_drewN ?_ _) | (with_reducible refine Kd.C_drew ?_))); (case aB => exact (by repeat (first | (with_reducible first | exact HB.out | apply below_alloc | apply pw_below_drewN | apply below_drew1) | exact HB.out))); (case aF => exact (fun k_ hk => Kd.fresh' (Kd.R_lt (by (with_reducible repeat (first | apply Kd.R_alloc | apply Kd.R_drewN | apply Kd.R_drew)); exact HO119.out)) k_ hk)); (case aO => exact (by (with_reducible repeat (first | apply Kd.R_alloc | apply Kd.R_drewN | apply Kd.R_drew)); exact Kd.R_mono HO_4.out (fun _ hk => hk.2))); (case aS => exact (below_size (by repeat (first | (with_reducible first | exact HB.out | apply below_alloc | apply pw_below_drewN | apply below_drew1) | exact HB.out)))); (case aL => have := LMc7.out; omega); intro v121 w9 ho hb hg hat; rw [← Ny120.out] at ho; have n0_ := Aside0.mk (Kd.R_after (ok := (fun _ => True)) (by (with_reducible repeat (first | apply Kd.R_alloc | apply Kd.R_drewN | apply Kd.R_drew)); exact HO119.out) hg hat); have n1_ := Aside0.mk (hb); have n2_ := Aside0.mk (ho); clear HO119; clear HB; clear HO_4; have HO119 := n0_; have HB := n1_; have HO122 := n2_; clear n0_ n1_ n2_; clear ho hb hg hat))
                go_roundg k1
                case measure => have := HK1.out; omega
                case rel => exact ⟨(y120), (wrap64 (x11_1 + 1)), (by first | rfl | (simp; done) | (simp [*]; done)), H', ⟨by have := HK1.out; omega⟩, ⟨by (with_reducible repeat (first | apply Kd.R_alloc | apply Kd.R_drewN | apply Kd.R_drew)); exact Kd.R_mono HO122.out (fun _ hk => trivial)⟩, ⟨by repeat (first | (with_reducible first | exact HB.out | apply below_alloc | apply pw_below_drewN | apply below_drew1) | exact HB.out)⟩⟩
              · rw [if_neg c7] at H
                exact absurd H (by simp)
            · rw [if_neg c6] at H
              have c6b0 : (t117 == 0) = false := beq_eq_false_iff_ne.mpr c6
              have c6b1 : (t117 != 0) = true := bne_iff_ne.mpr c6
              simp only [Option.some.injEq, Prod.mk.injEq] at H
              obtain ⟨rfl, rfl⟩ := H
              have p115 : 0 ≤ (x11_1 : Int) := of_decide_eq_true (by first | (with_reducible assumption) | assumption)
              have q115 : x11_1 < (l0.length : Int) := of_decide_eq_true (by first | (with_reducible assumption) | assumption)
              obtain ⟨ad115, e115, hx115_0⟩ := Kd.at_int HR0.out x11_1 p115 q115
              cases e115
              replace hx115_0 := (HB.out.cell (World.block_lt_of_cell? w _ hx115_0)).trans hx115_0
              replace p115 := eq_true p115
              replace q115 := eq_true q115
              go_wp2_with (first | ((with_reducible refine gate_callee (f := 29) rfl ?_); refine goesL_ (some 17) rfl rfl Try.func29 (by kernel_rfl) rfl #[.int .i64 (rd l0 x11_1)] rfl (by (try simp only [List.map_toArray, List.map_cons, List.map_nil]); first | done | rfl | (simp only [List.length_drop, List.length_take]; rfl)) ?_; (with_reducible refine (vlq_Put.calls k1 (rd l0 x11_1) t116 t117 _ A5.out).mono ?_); rintro e w11 ⟨v118, rfl, ho0, hb⟩; refine ⟨_, rfl, ?_⟩; have n0_ := Aside0.mk (Kd.R_elder' (by (with_reducible repeat (first | apply Kd.R_alloc | apply Kd.R_drewN | apply Kd.R_drew)); exact HO_4.out) (Kd.R_base ho0) hb); have n1_ := Aside0.mk (Kd.R_lower (Kd.R_new' ho0 (Kd.R_lt (by (with_reducible repeat (first | apply Kd.R_alloc | apply Kd.R_drewN | apply Kd.R_drew)); exact HO_4.out))) (below_size (by repeat (first | (with_reducible first | exact HB.out | apply below_alloc | apply pw_below_drewN | apply below_drew1) | exact HB.out)))); have n2_ := Aside0.mk (below_step (by repeat (first | (with_reducible first | exact HB.out | apply below_alloc | apply pw_below_drewN | apply below_drew1) | exact HB.out)) hb); clear HO_4; clear HB; have HO_4 := n0_; have HO119 := n1_; have HB := n2_; clear n0_ n1_ n2_; (try clear hb); (try clear hb2); (try clear hk); (try clear hi); (try clear ho0)))
              go_ret2
              exact ⟨_, by first | rfl | (simp [errW_none, errW_some] <;> rfl) | (simp [*, errW_none, errW_some] <;> rfl), by first | exact Kd.R_nil _ _ _ _ _ | exact Kd.N_nil _ _ _ _ _ | exact Kd.V_nil _ _ _ _ _ | exact Kd.Q_nil _ _ _ _ _ | exact Kd.S_nil _ _ _ _ _, by repeat (first | (with_reducible first | exact HB.out | apply below_alloc | apply pw_below_drewN | apply below_drew1) | exact HB.out)⟩
          · rw [if_neg c4] at H
            exact absurd H (by simp)
        · rw [if_neg c3] at H
          exact absurd H (by simp)
      · rw [if_neg c2] at H
        have c2b0 : decide (x11_1 < (l0.length : Int)) = false := decide_eq_false c2
        clear c2
        simp only [Option.some.injEq, Prod.mk.injEq] at H
        obtain ⟨rfl, rfl⟩ := H
        go_wp2
        go_ret2
        exact ⟨_, by first | rfl | (simp [errW_none, errW_some] <;> rfl) | (simp [*, errW_none, errW_some] <;> rfl), by (with_reducible repeat (first | apply Kd.R_alloc | apply Kd.R_drewN | apply Kd.R_drew)); exact HO_4.out, by repeat (first | (with_reducible first | exact HB.out | apply below_alloc | apply pw_below_drewN | apply below_drew1) | exact HB.out)⟩

/-! ### command_Put: function 11 -/
def command_Put.j0 : Nat → List Int → Int → Int → Int → Int → Int → ByteArray → Bool → Bool → Bool → Bool → Option (List Int × Int)
  | 0, _, _, _, _, _, _, _, _, _, _, _ => none
  | k + 1, x6, x124000, x124001, x124002, x124003, x124004, x124005, x131000, x131001, x131002, x131003 => if x131001 = true then (if x6.length < 17592186044416 then ((some (x6 ++ [x124004] : List Int)).bind fun y140 => (if x131002 = true then (if y140.length < 17592186044416 then ((vlq_PutAll.f k (y140 ++ [(x124005.size : Int)])).bind fun bt146 => (if bt146.1.length + x124005.size < 140737488355328 then (some ((bt146.1 ++ bytesOf x124005), 0)) else (none))) else (none)) else ((vlq_PutAll.f k y140).bind fun bt153 => (if bt153.1.length + x124005.size < 140737488355328 then (some ((bt153.1 ++ bytesOf x124005), 0)) else (none))))) else (none)) else (if x131002 = true then (if x6.length < 17592186044416 then ((vlq_PutAll.f k (x6 ++ [(x124005.size : Int)])).bind fun bt163 => (if bt163.1.length + x124005.size < 140737488355328 then (some ((bt163.1 ++ bytesOf x124005), 0)) else (none))) else (none)) else ((vlq_PutAll.f k x6).bind fun bt170 => (if bt170.1.length + x124005.size < 140737488355328 then (some ((bt170.1 ++ bytesOf x124005), 0)) else (none))))
def command_Put.f (k : Nat) (a0_0 : Int) (a0_1 : Int) (a0_2 : Int) (a0_3 : Int) (a0_4 : Int) (a0_5 : ByteArray) : Option (List Int × Int) := (command_May.f a0_0 a0_1 a0_2 a0_3 a0_4 a0_5).bind fun t124 => (if t124 = true then ((command_of.f a0_0 a0_1 a0_2 a0_3 a0_4 a0_5).bind fun bt125 => ((some (([a0_2] : List Int) : List Int)).bind fun y131 => (if (bt125.1 || (bt125.2.1 || (bt125.2.2.1 || (!bt125.2.2.2.1)))) = true then ((some (([a0_0, a0_1, a0_3] : List Int) : List Int)).bind fun y134 => (if y131.length + y134.length < 17592186044416 then (command_Put.j0 k (y131 ++ y134) a0_0 a0_1 a0_2 a0_3 a0_4 a0_5 bt125.1 bt125.2.1 bt125.2.2.1 bt125.2.2.2.1) else (none))) else (command_Put.j0 k y131 a0_0 a0_1 a0_2 a0_3 a0_4 a0_5 bt125.1 bt125.2.1 bt125.2.2.1 bt125.2.2.2.1)))) else (some (([] : List Int), 1)))
theorem command_Put.mono_l : ∀ k, (∀ y0 y1 y2 y3 y4 y5 y6 y7 y8 y9 y10, LeO (command_Put.j0 k y0 y1 y2 y3 y4 y5 y6 y7 y8 y9 y10) (command_Put.j0 (k + 1) y0 y1 y2 y3 y4 y5 y6 y7 y8 y9 y10))
  | 0 => fun _ _ _ _ _ _ _ _ _ _ _ r h => by simp [command_Put.j0] at h
  | k + 1 => by
    have ih0 := command_Put.mono_l k
    · intro y0 y1 y2 y3 y4 y5 y6 y7 y8 y9 y10
      unfold command_Put.j0
      repeat' first
      | (with_reducible exact ih0 _ _ _ _ _ _ _ _ _ _ _)
      | (with_reducible exact vlq_PutAll.mono _ _)
      | (with_reducible exact LeO.refl _)
      | (with_reducible exact LeO.none _)
      | (with_reducible refine LeO.ite ?_ ?_)
      | (with_reducible refine LeO.bind ?_ (fun _ => ?_))
      | exact ih0 _ _ _ _ _ _ _ _ _ _ _
      | exact vlq_PutAll.mono _ _
      | exact LeO.none _
      | refine LeO.ite ?_ ?_
      | refine LeO.bind ?_ (fun _ => ?_)
theorem command_Put.mono : ∀ a0 a1 a2 a3 a4 a5 k, LeO (command_Put.f k a0 a1 a2 a3 a4 a5) (command_Put.f (k + 1) a0 a1 a2 a3 a4 a5) := by
  intro a0 a1 a2 a3 a4 a5 k
  have ih0 := command_Put.mono_l k
  unfold command_Put.f
  repeat' first
      | (with_reducible exact ih0 _ _ _ _ _ _ _ _ _ _ _)
      | (with_reducible exact vlq_PutAll.mono _ _)
      | (with_reducible exact LeO.refl _)
      | (with_reducible exact LeO.none _)
      | (with_reducible refine LeO.ite ?_ ?_)
      | (with_reducible refine LeO.bind ?_ (fun _ => ?_))
      | exact ih0 _ _ _ _ _ _ _ _ _ _ _
      | exact vlq_PutAll.mono _ _
      | exact LeO.none _
      | refine LeO.ite ?_ ?_
      | refine LeO.bind ?_ (fun _ => ?_)
set_option maxHeartbeats 8000000 in
set_option maxRecDepth 100000 in
theorem command_Put.calls (k : Nat) (a0_0 : Int) (a0_1 : Int) (a0_2 : Int) (a0_3 : Int) (a0_4 : Int) (a0_5 : ByteArray) (r1 : List Int) (r2 : Int) (w : World) (h : command_Put.f k a0_0 a0_1 a0_2 a0_3 a0_4 a0_5 = some (r1, r2)) :
    Calls Try.prog 11 #[.agg #[.int .i64 a0_0, .int .i64 a0_1, .int .i64 a0_2, .int .i64 a0_3, .int .i64 a0_4, .string a0_5]] w fun e w' => ∃ v0_ : Value, e = .returned (.tuple #[v0_, .int .i64 r2]) ∧ Kd.R (Kd.int .u8) 5 w' w.heap.size (fun _ => True) v0_ r1 ∧ Below w.heap.size w w' := by
  have hu23 := Try.underlying23
  have hu36 := Try.underlying36
  have HB := Aside0.mk (Below.refl w.heap.size w)
  have H : ((command_May.f a0_0 a0_1 a0_2 a0_3 a0_4 a0_5).bind fun t124 => (if t124 = true then ((command_of.f a0_0 a0_1 a0_2 a0_3 a0_4 a0_5).bind fun bt125 => ((some (([a0_2] : List Int) : List Int)).bind fun y131 => (if (bt125.1 || (bt125.2.1 || (bt125.2.2.1 || (!bt125.2.2.2.1)))) = true then ((some (([a0_0, a0_1, a0_3] : List Int) : List Int)).bind fun y134 => (if y131.length + y134.length < 17592186044416 then (command_Put.j0 k (y131 ++ y134) a0_0 a0_1 a0_2 a0_3 a0_4 a0_5 bt125.1 bt125.2.1 bt125.2.2.1 bt125.2.2.2.1) else (none))) else (command_Put.j0 k y131 a0_0 a0_1 a0_2 a0_3 a0_4 a0_5 bt125.1 bt125.2.1 bt125.2.2.1 bt125.2.2.2.1)))) else (some (([] : List Int), 1)))) = some (r1, r2) := h
  clear h
  replace H := Option.bind_eq_some_iff.mp H
  obtain ⟨t124, A20, H⟩ := H
  replace H : (if t124 = true then ((command_of.f a0_0 a0_1 a0_2 a0_3 a0_4 a0_5).bind fun bt125 => ((some (([a0_2] : List Int) : List Int)).bind fun y131 => (if (bt125.1 || (bt125.2.1 || (bt125.2.2.1 || (!bt125.2.2.2.1)))) = true then ((some (([a0_0, a0_1, a0_3] : List Int) : List Int)).bind fun y134 => (if y131.length + y134.length < 17592186044416 then (command_Put.j0 k (y131 ++ y134) a0_0 a0_1 a0_2 a0_3 a0_4 a0_5 bt125.1 bt125.2.1 bt125.2.2.1 bt125.2.2.2.1) else (none))) else (command_Put.j0 k y131 a0_0 a0_1 a0_2 a0_3 a0_4 a0_5 bt125.1 bt125.2.1 bt125.2.2.1 bt125.2.2.2.1)))) else (some (([] : List Int), 1))) = some (r1, r2) := H
  have A2 := Aside0.mk A20
  clear A20
  by_cases c3 : t124 = true
  · subst c3
    have H1 : ((command_of.f a0_0 a0_1 a0_2 a0_3 a0_4 a0_5).bind fun bt125 => ((some (([a0_2] : List Int) : List Int)).bind fun y131 => (if (bt125.1 || (bt125.2.1 || (bt125.2.2.1 || (!bt125.2.2.2.1)))) = true then ((some (([a0_0, a0_1, a0_3] : List Int) : List Int)).bind fun y134 => (if y131.length + y134.length < 17592186044416 then (command_Put.j0 k (y131 ++ y134) a0_0 a0_1 a0_2 a0_3 a0_4 a0_5 bt125.1 bt125.2.1 bt125.2.2.1 bt125.2.2.2.1) else (none))) else (command_Put.j0 k y131 a0_0 a0_1 a0_2 a0_3 a0_4 a0_5 bt125.1 bt125.2.1 bt125.2.2.1 bt125.2.2.2.1)))) = some (r1, r2) := by rw [if_pos rfl] at H; exact H
    clear H
    have H := H1
    clear H1
    replace H := Option.bind_eq_some_iff.mp H
    obtain ⟨⟨t125, t126, t127, t128, t129⟩, A40, H⟩ := H
    replace H : ((some (([a0_2] : List Int) : List Int)).bind fun y131 => (if (t125 || (t126 || (t127 || (!t128)))) = true then ((some (([a0_0, a0_1, a0_3] : List Int) : List Int)).bind fun y134 => (if y131.length + y134.length < 17592186044416 then (command_Put.j0 k (y131 ++ y134) a0_0 a0_1 a0_2 a0_3 a0_4 a0_5 t125 t126 t127 t128) else (none))) else (command_Put.j0 k y131 a0_0 a0_1 a0_2 a0_3 a0_4 a0_5 t125 t126 t127 t128))) = some (r1, r2) := H
    have A4 := Aside0.mk A40
    clear A40
    obtain ⟨y131, hy131⟩ : ∃ y_ : List Int, y_ = (([a0_2] : List Int)) := ⟨_, rfl⟩
    replace H : (if (t125 || (t126 || (t127 || (!t128)))) = true then ((some (([a0_0, a0_1, a0_3] : List Int) : List Int)).bind fun y134 => (if y131.length + y134.length < 17592186044416 then (command_Put.j0 k (y131 ++ y134) a0_0 a0_1 a0_2 a0_3 a0_4 a0_5 t125 t126 t127 t128) else (none))) else (command_Put.j0 k y131 a0_0 a0_1 a0_2 a0_3 a0_4 a0_5 t125 t126 t127 t128)) = some (r1, r2) := by first | (rw [hy131]; with_reducible exact H) | (have H2_ := (Option.bind_some _ _).symm.trans H; rw [hy131]; with_reducible exact H2_) | (have H2_ := (Option.bind_some _ _).symm.trans H; with_reducible exact H2_) | with_reducible exact H | (rw [hy131]; exact H) | exact H
    have Ny131 := Aside0.mk hy131
    clear hy131
    have HC5 := Aside0.mk H
    clear H
    go_enter Try.func11, Try.ntmps11
    go_upto_if 22 with (first | ((with_reducible refine gate_dst (N := 1) rfl ?_); refine box_event ?hg (N := 1) ?hd (cs := #[.int .i64 a0_0, .int .i64 a0_1, .int .i64 a0_2, .int .i64 a0_3, .int .i64 a0_4, .string a0_5]) (t := 23) ?hr ?_; (case hd => rfl); (case hg => rfl); (case hr => first | (go_simp; done) | (go_simp; rfl)); intro gb123 hg w6 hbox hb; have n0_ := Aside0.mk (below_step (by repeat (first | (with_reducible first | exact HB.out | apply below_alloc | apply pw_below_drewN | apply below_drew1) | exact HB.out)) hb); have n1_ := Aside0.mk (hbox); have n2_ := Aside0.mk ((by rw [hg]; exact (below_size (by repeat (first | (with_reducible first | exact HB.out | apply below_alloc | apply pw_below_drewN | apply below_drew1) | exact HB.out))) : w.heap.size ≤ gb123)); have n3_ := Aside0.mk ((by rw [hg]; exact (below_size (by repeat (first | (with_reducible first | exact HB.out | apply below_alloc | apply pw_below_drewN | apply below_drew1) | exact HB.out))) : w.heap.size ≤ gb123)); clear HB; have HB := n0_; have BK123 := n1_; have GW123 := n2_; have GE123 := n3_; clear n0_ n1_ n2_ n3_; clear hb hbox hg; have hcz7_0 : w6.cell? ⟨gb123, 0, none⟩ = some (.int .i64 a0_0) := (blk_cell BK123.out 0).trans rfl; have hcz7_1 : w6.cell? ⟨gb123, 1, none⟩ = some (.int .i64 a0_1) := (blk_cell BK123.out 1).trans rfl; have hcz7_2 : w6.cell? ⟨gb123, 2, none⟩ = some (.int .i64 a0_2) := (blk_cell BK123.out 2).trans rfl; have hcz7_3 : w6.cell? ⟨gb123, 3, none⟩ = some (.int .i64 a0_3) := (blk_cell BK123.out 3).trans rfl; have hcz7_4 : w6.cell? ⟨gb123, 4, none⟩ = some (.int .i64 a0_4) := (blk_cell BK123.out 4).trans rfl; have hcz7_5 : w6.cell? ⟨gb123, 5, none⟩ = some (.string a0_5) := (blk_cell BK123.out 5).trans rfl; have hfz7_0 := blk_frozen BK123.out 0; have hfz7_1 := blk_frozen BK123.out 1; have hfz7_2 := blk_frozen BK123.out 2; have hfz7_3 := blk_frozen BK123.out 3; have hfz7_4 := blk_frozen BK123.out 4; have hfz7_5 := blk_frozen BK123.out 5) | ((with_reducible refine gate_callee (f := 10) rfl ?_); refine goesL_ (some 10) rfl rfl Try.func10 (by kernel_rfl) rfl #[.agg #[.int .i64 a0_0, .int .i64 a0_1, .int .i64 a0_2, .int .i64 a0_3, .int .i64 a0_4, .string a0_5]] rfl (by (try simp only [List.map_toArray, List.map_cons, List.map_nil]); first | done | rfl | (simp only [List.length_drop, List.length_take]; rfl)) ?_; (with_reducible refine (command_May.calls a0_0 a0_1 a0_2 a0_3 a0_4 a0_5 true _ A2.out).mono ?_); rintro e w8 ⟨rfl, hb⟩; refine ⟨_, rfl, ?_⟩; have n0_ := Aside0.mk (blk_below (g := gb123) (o := .cells #[.int .i64 a0_0, .int .i64 a0_1, .int .i64 a0_2, .int .i64 a0_3, .int .i64 a0_4, .string a0_5] 23 (0, 0)) (by (with_reducible repeat (first | refine blk_drewN ?_ _ | refine blk_drew ?_ | refine blk_alloc ?_ _)); exact BK123.out) hb); have n1_ := Aside0.mk (below_step (by repeat (first | (with_reducible first | exact HB.out | apply below_alloc | apply pw_below_drewN | apply below_drew1 | refine below_set ?_ GE123.out) | exact HB.out)) hb); clear BK123; clear HB; have BK123 := n0_; have HB := n1_; clear n0_ n1_; (try clear hb); (try clear hb2); (try clear hk); (try clear hi); have hcz9_0 : w8.cell? ⟨gb123, 0, none⟩ = some (.int .i64 a0_0) := (blk_cell BK123.out 0).trans rfl; have hcz9_1 : w8.cell? ⟨gb123, 1, none⟩ = some (.int .i64 a0_1) := (blk_cell BK123.out 1).trans rfl; have hcz9_2 : w8.cell? ⟨gb123, 2, none⟩ = some (.int .i64 a0_2) := (blk_cell BK123.out 2).trans rfl; have hcz9_3 : w8.cell? ⟨gb123, 3, none⟩ = some (.int .i64 a0_3) := (blk_cell BK123.out 3).trans rfl; have hcz9_4 : w8.cell? ⟨gb123, 4, none⟩ = some (.int .i64 a0_4) := (blk_cell BK123.out 4).trans rfl; have hcz9_5 : w8.cell? ⟨gb123, 5, none⟩ = some (.string a0_5) := (blk_cell BK123.out 5).trans rfl; have hfz9_0 := blk_frozen BK123.out 0; have hfz9_1 := blk_frozen BK123.out 1; have hfz9_2 := blk_frozen BK123.out 2; have hfz9_3 := blk_frozen BK123.out 3; have hfz9_4 := blk_frozen BK123.out 4; have hfz9_5 := blk_frozen BK123.out 5) | ((with_reducible refine gate_callee (f := 18) rfl ?_); refine goesL_ (some 14) rfl rfl Try.func18 (by kernel_rfl) rfl #[.agg #[.int .i64 a0_0, .int .i64 a0_1, .int .i64 a0_2, .int .i64 a0_3, .int .i64 a0_4, .string a0_5]] rfl (by (try simp only [List.map_toArray, List.map_cons, List.map_nil]); first | done | rfl | (simp only [List.length_drop, List.length_take]; rfl)) ?_; (with_reducible refine (command_of.calls a0_0 a0_1 a0_2 a0_3 a0_4 a0_5 t125 t126 t127 t128 t129 _ A4.out).mono ?_); rintro e w10 ⟨rfl, hb⟩; refine ⟨_, rfl, ?_⟩; have n0_ := Aside0.mk (blk_below (g := gb123) (o := .cells #[.int .i64 a0_0, .int .i64 a0_1, .int .i64 a0_2, .int .i64 a0_3, .int .i64 a0_4, .string a0_5] 23 (0, 0)) (by (with_reducible repeat (first | refine blk_drewN ?_ _ | refine blk_drew ?_ | refine blk_alloc ?_ _)); exact BK123.out) hb); have n1_ := Aside0.mk (below_step (by repeat (first | (with_reducible first | exact HB.out | apply below_alloc | apply pw_below_drewN | apply below_drew1 | refine below_set ?_ GE123.out) | exact HB.out)) hb); clear BK123; clear HB; have BK123 := n0_; have HB := n1_; clear n0_ n1_; (try clear hb); (try clear hb2); (try clear hk); (try clear hi)) | ((with_reducible refine gate_dst (N := 4) rfl ?_); refine box_event ?hg (N := 4) ?hd (cs := #[.bool false, .bool false, .bool false, .bool false]) (t := 36) ?hr ?_; (case hd => rfl); (case hg => rfl); (case hr => first | (go_simp; done) | (go_simp; rfl)); intro gb130 hg w11 hbox hb; have n0_ := Aside0.mk (blk_below (g := gb123) (o := .cells #[.int .i64 a0_0, .int .i64 a0_1, .int .i64 a0_2, .int .i64 a0_3, .int .i64 a0_4, .string a0_5] 23 (0, 0)) (by (with_reducible repeat (first | refine blk_drewN ?_ _ | refine blk_drew ?_ | refine blk_alloc ?_ _)); exact BK123.out) hb); have n1_ := Aside0.mk (below_step (by repeat (first | (with_reducible first | exact HB.out | apply below_alloc | apply pw_below_drewN | apply below_drew1 | refine below_set ?_ GE123.out) | exact HB.out)) hb); have n2_ := Aside0.mk (hbox); have n3_ := Aside0.mk ((by rw [hg]; exact (below_size (by repeat (first | (with_reducible first | exact HB.out | apply below_alloc | apply pw_below_drewN | apply below_drew1 | refine below_set ?_ GE123.out) | exact HB.out))) : w.heap.size ≤ gb130)); have n4_ := Aside0.mk ((by rw [hg]; exact (below_size (by repeat (first | (with_reducible first | exact HB.out | apply below_alloc | apply pw_below_drewN | apply below_drew1 | refine below_set ?_ GE123.out) | exact HB.out))) : w.heap.size ≤ gb130)); have n5_ := Aside0.mk ((by rw [hg]; exact Nat.ne_of_lt (blk_lt (g := gb123) (o := .cells #[.int .i64 a0_0, .int .i64 a0_1, .int .i64 a0_2, .int .i64 a0_3, .int .i64 a0_4, .string a0_5] 23 (0, 0)) (by (with_reducible repeat (first | refine blk_drewN ?_ _ | refine blk_drew ?_ | refine blk_alloc ?_ _)); exact BK123.out)) : gb123 ≠ gb130)); have n6_ := Aside0.mk ((by rw [hg]; exact Nat.ne_of_gt (blk_lt (g := gb123) (o := .cells #[.int .i64 a0_0, .int .i64 a0_1, .int .i64 a0_2, .int .i64 a0_3, .int .i64 a0_4, .string a0_5] 23 (0, 0)) (by (with_reducible repeat (first | refine blk_drewN ?_ _ | refine blk_drew ?_ | refine blk_alloc ?_ _)); exact BK123.out)) : gb130 ≠ gb123)); clear BK123; clear HB; have BK123 := n0_; have HB := n1_; have BK130 := n2_; have GW130 := n3_; have GE130 := n4_; have NB123_130 := n5_; have NB130_123 := n6_; clear n0_ n1_ n2_ n3_ n4_ n5_ n6_; clear hb hbox hg; have hnb12 := NB130_123.out; have hnc12 := NB123_130.out; have hcz13_0 : w11.cell? ⟨gb130, 0, none⟩ = some (.bool false) := (blk_cell BK130.out 0).trans rfl; have hcz13_1 : w11.cell? ⟨gb130, 1, none⟩ = some (.bool false) := (blk_cell BK130.out 1).trans rfl; have hcz13_2 : w11.cell? ⟨gb130, 2, none⟩ = some (.bool false) := (blk_cell BK130.out 2).trans rfl; have hcz13_3 : w11.cell? ⟨gb130, 3, none⟩ = some (.bool false) := (blk_cell BK130.out 3).trans rfl; have hfz13_0 := blk_frozen BK130.out 0; have hfz13_1 := blk_frozen BK130.out 1; have hfz13_2 := blk_frozen BK130.out 2; have hfz13_3 := blk_frozen BK130.out 3; have hcz14_0 : w11.cell? ⟨gb123, 0, none⟩ = some (.int .i64 a0_0) := (blk_cell BK123.out 0).trans rfl; have hcz14_1 : w11.cell? ⟨gb123, 1, none⟩ = some (.int .i64 a0_1) := (blk_cell BK123.out 1).trans rfl; have hcz14_2 : w11.cell? ⟨gb123, 2, none⟩ = some (.int .i64 a0_2) := (blk_cell BK123.out 2).trans rfl; have hcz14_3 : w11.cell? ⟨gb123, 3, none⟩ = some (.int .i64 a0_3) := (blk_cell BK123.out 3).trans rfl; have hcz14_4 : w11.cell? ⟨gb123, 4, none⟩ = some (.int .i64 a0_4) := (blk_cell BK123.out 4).trans rfl; have hcz14_5 : w11.cell? ⟨gb123, 5, none⟩ = some (.string a0_5) := (blk_cell BK123.out 5).trans rfl; have hfz14_0 := blk_frozen BK123.out 0; have hfz14_1 := blk_frozen BK123.out 1; have hfz14_2 := blk_frozen BK123.out 2; have hfz14_3 := blk_frozen BK123.out 3; have hfz14_4 := blk_frozen BK123.out 4; have hfz14_5 := blk_frozen BK123.out 5) | ((with_reducible refine gate_dst (N := 19) rfl ?_); refine Kd.R_lit (Kd.int .i64) _ 3 ?hg (N := 19) ?hd (xs := ([a0_2] : List Int)) (inner := [.int .i64 a0_2]) (ok := fun _ => True) (okp := fun _ => True) ?hr ?hp (fun _ hk => hk) trivial (Below.refl _ _) (Nat.le_refl _) (by simp) ?_; (case hd => rfl); (case hg => rfl); (case hr => first | (go_simp; done) | (go_simp; rfl)); (case hp => exact (Reps.one (show Kd.M (Kd.int .i64) _ _ _ a0_2 [.int .i64 a0_2] from rfl) (Reps.none _ _))); intro v132 w15 ho16 hb hg_ hnew_; clear hg_ hnew_; (first | rw [← Ny131.out] at ho16 | (simp only [Int.reduceToNat] at ho16; rw [← Ny131.out] at ho16)); have n0_ := Aside0.mk (Kd.R_lower ho16 (below_size (by repeat (first | (with_reducible first | exact HB.out | apply below_alloc | apply pw_below_drewN | apply below_drew1 | refine below_set ?_ GE123.out | refine below_set ?_ GE130.out) | exact HB.out)))); have n1_ := Aside0.mk (blk_below (g := gb123) (o := .cells #[.int .i64 a0_0, .int .i64 a0_1, .int .i64 a0_2, .int .i64 a0_3, .int .i64 a0_4, .string a0_5] 23 (0, 0)) (by (with_reducible repeat (first | refine blk_drewN ?_ _ | refine blk_drew ?_ | refine blk_alloc ?_ _)); refine blk_far ?_ NB123_130.out _; (with_reducible repeat (first | refine blk_drewN ?_ _ | refine blk_drew ?_ | refine blk_alloc ?_ _)); refine blk_far ?_ NB123_130.out _; (with_reducible repeat (first | refine blk_drewN ?_ _ | refine blk_drew ?_ | refine blk_alloc ?_ _)); refine blk_far ?_ NB123_130.out _; (with_reducible repeat (first | refine blk_drewN ?_ _ | refine blk_drew ?_ | refine blk_alloc ?_ _)); refine blk_far ?_ NB123_130.out _; (with_reducible repeat (first | refine blk_drewN ?_ _ | refine blk_drew ?_ | refine blk_alloc ?_ _)); exact BK123.out) hb); have n2_ := Aside0.mk (blk_below (g := gb130) (o := .cells #[.bool t125, .bool t126, .bool t127, .bool t128] 36 (0, 0)) (by (with_reducible repeat (first | refine blk_drewN ?_ _ | refine blk_drew ?_ | refine blk_alloc ?_ _)); refine blk_put (cs := #[.bool t125, .bool t126, .bool t127, .bool false]) ?_ 3 _ rfl; (with_reducible repeat (first | refine blk_drewN ?_ _ | refine blk_drew ?_ | refine blk_alloc ?_ _)); refine blk_put (cs := #[.bool t125, .bool t126, .bool false, .bool false]) ?_ 2 _ rfl; (with_reducible repeat (first | refine blk_drewN ?_ _ | refine blk_drew ?_ | refine blk_alloc ?_ _)); refine blk_put (cs := #[.bool t125, .bool false, .bool false, .bool false]) ?_ 1 _ rfl; (with_reducible repeat (first | refine blk_drewN ?_ _ | refine blk_drew ?_ | refine blk_alloc ?_ _)); refine blk_put (cs := #[.bool false, .bool false, .bool false, .bool false]) ?_ 0 _ rfl; (with_reducible repeat (first | refine blk_drewN ?_ _ | refine blk_drew ?_ | refine blk_alloc ?_ _)); exact BK130.out) hb); have n3_ := Aside0.mk (below_step (by repeat (first | (with_reducible first | exact HB.out | apply below_alloc | apply pw_below_drewN | apply below_drew1 | refine below_set ?_ GE123.out | refine below_set ?_ GE130.out) | exact HB.out)) hb); clear BK123; clear BK130; clear HB; have HO133 := n0_; have BK123 := n1_; have BK130 := n2_; have HB := n3_; clear n0_ n1_ n2_ n3_; clear hb ho16; have hcz17_0 : w15.cell? ⟨gb130, 0, none⟩ = some (.bool t125) := (blk_cell BK130.out 0).trans rfl; have hcz17_1 : w15.cell? ⟨gb130, 1, none⟩ = some (.bool t126) := (blk_cell BK130.out 1).trans rfl; have hcz17_2 : w15.cell? ⟨gb130, 2, none⟩ = some (.bool t127) := (blk_cell BK130.out 2).trans rfl; have hcz17_3 : w15.cell? ⟨gb130, 3, none⟩ = some (.bool t128) := (blk_cell BK130.out 3).trans rfl; have hfz17_0 := blk_frozen BK130.out 0; have hfz17_1 := blk_frozen BK130.out 1; have hfz17_2 := blk_frozen BK130.out 2; have hfz17_3 := blk_frozen BK130.out 3))
    (try simp only [Act.put, List.setIfInBounds_toArray, List.set_cons_zero, List.set_cons_succ])
    go_cut [6] (fun v6 wc => ∃ (kq : Nat) (x6_4 : List Int), Aside0 (command_Put.j0 kq x6_4 a0_0 a0_1 a0_2 a0_3 a0_4 a0_5 t125 t126 t127 t128 = some (r1, r2)) ∧ Aside0 (kq ≤ k) ∧ Aside0 (Kd.R (Kd.int .i64) 3 wc w.heap.size (fun _ => True) v6 x6_4) ∧ Aside0 (wc.heap[gb123]? = some (.cells #[.int .i64 a0_0, .int .i64 a0_1, .int .i64 a0_2, .int .i64 a0_3, .int .i64 a0_4, .string a0_5] 23 (0, 0))) ∧ Aside0 (wc.heap[gb130]? = some (.cells #[.bool t125, .bool t126, .bool t127, .bool t128] 36 (0, 0))) ∧ Aside0 (Below w.heap.size w wc))
    case first =>
      have H := HC5.out
      clear HC5
      by_cases c18 : (t125 || (t126 || (t127 || (!t128)))) = true
      · rw [if_pos c18] at H
        have c18b0 : (t125 || (t126 || (t127 || (!t128)))) = true := c18
        clear c18
        (first | rw [c18b0] | (simp only [i64_w, i32_w]; rw [c18b0]) | skip)
        obtain ⟨y134, hy134⟩ : ∃ y_ : List Int, y_ = (([a0_0, a0_1, a0_3] : List Int)) := ⟨_, rfl⟩
        replace H : (if y131.length + y134.length < 17592186044416 then (command_Put.j0 k (y131 ++ y134) a0_0 a0_1 a0_2 a0_3 a0_4 a0_5 t125 t126 t127 t128) else (none)) = some (r1, r2) := by first | (rw [hy134]; with_reducible exact H) | (have H2_ := (Option.bind_some _ _).symm.trans H; rw [hy134]; with_reducible exact H2_) | (have H2_ := (Option.bind_some _ _).symm.trans H; with_reducible exact H2_) | with_reducible exact H | (rw [hy134]; exact H) | exact H
        have Ny134 := Aside0.mk hy134
        clear hy134
        by_cases c19 : y131.length + y134.length < 17592186044416
        · rw [if_pos c19] at H
          have LMc19 := Aside0.mk c19
          clear c19
          obtain ⟨y137, hy137⟩ : ∃ y_ : List Int, y_ = (y131 ++ y134) := ⟨_, rfl⟩
          replace H : (command_Put.j0 k y137 a0_0 a0_1 a0_2 a0_3 a0_4 a0_5 t125 t126 t127 t128) = some (r1, r2) := by first | (rw [hy137]; with_reducible exact H) | (have H2_ := (Option.bind_some _ _).symm.trans H; rw [hy137]; with_reducible exact H2_) | (have H2_ := (Option.bind_some _ _).symm.trans H; with_reducible exact H2_) | with_reducible exact H | (rw [hy137]; exact H) | exact H
          have Ny137 := Aside0.mk hy137
          clear hy137
          have H' := Aside0.mk H
          clear H
          have hnb20 := NB123_130.out
          have hnc20 := NB130_123.out
          have hcz21_0 : w15.cell? ⟨gb123, 0, none⟩ = some (.int .i64 a0_0) := (blk_cell BK123.out 0).trans rfl
          have hcz21_1 : w15.cell? ⟨gb123, 1, none⟩ = some (.int .i64 a0_1) := (blk_cell BK123.out 1).trans rfl
          have hcz21_2 : w15.cell? ⟨gb123, 2, none⟩ = some (.int .i64 a0_2) := (blk_cell BK123.out 2).trans rfl
          have hcz21_3 : w15.cell? ⟨gb123, 3, none⟩ = some (.int .i64 a0_3) := (blk_cell BK123.out 3).trans rfl
          have hcz21_4 : w15.cell? ⟨gb123, 4, none⟩ = some (.int .i64 a0_4) := (blk_cell BK123.out 4).trans rfl
          have hcz21_5 : w15.cell? ⟨gb123, 5, none⟩ = some (.string a0_5) := (blk_cell BK123.out 5).trans rfl
          have hfz21_0 := blk_frozen BK123.out 0
          have hfz21_1 := blk_frozen BK123.out 1
          have hfz21_2 := blk_frozen BK123.out 2
          have hfz21_3 := blk_frozen BK123.out 3
          have hfz21_4 := blk_frozen BK123.out 4
          have hfz21_5 := blk_frozen BK123.out 5
          go_wp2_with (first | ((with_reducible refine gate_dst (N := 30) rfl ?_); refine Kd.R_lit (Kd.int .i64) _ 3 ?hg (N := 30) ?hd (xs := ([a0_0, a0_1, a0_3] : List Int)) (inner := [.int .i64 a0_0, .int .i64 a0_1, .int .i64 a0_3]) (ok := fun _ => True) (okp := fun _ => True) ?hr ?hp (fun _ hk => hk) trivial (Below.refl _ _) (Nat.le_refl _) (by simp) ?_; (case hd => rfl); (case hg => rfl); (case hr => first | (go_simp; done) | (go_simp; rfl)); (case hp => exact (Reps.one (show Kd.M (Kd.int .i64) _ _ _ a0_0 [.int .i64 a0_0] from rfl) (Reps.one (show Kd.M (Kd.int .i64) _ _ _ a0_1 [.int .i64 a0_1] from rfl) (Reps.one (show Kd.M (Kd.int .i64) _ _ _ a0_3 [.int .i64 a0_3] from rfl) (Reps.none _ _))))); intro v135 w22 ho23 hb hg_ hnew_; clear hg_ hnew_; (first | rw [← Ny134.out] at ho23 | (simp only [Int.reduceToNat] at ho23; rw [← Ny134.out] at ho23)); have n0_ := Aside0.mk (Kd.R_elder' (by (with_reducible repeat (first | apply Kd.R_alloc | apply Kd.R_drewN | apply Kd.R_drew)); exact HO133.out) (Kd.R_base ho23) hb); have n1_ := Aside0.mk (Kd.R_lower (Kd.R_new' ho23 (Kd.R_lt (by (with_reducible repeat (first | apply Kd.R_alloc | apply Kd.R_drewN | apply Kd.R_drew)); exact HO133.out))) (below_size (by repeat (first | (with_reducible first | exact HB.out | apply below_alloc | apply pw_below_drewN | apply below_drew1 | refine below_set ?_ GE123.out | refine below_set ?_ GE130.out) | exact HB.out)))); have n2_ := Aside0.mk (blk_below (g := gb123) (o := .cells #[.int .i64 a0_0, .int .i64 a0_1, .int .i64 a0_2, .int .i64 a0_3, .int .i64 a0_4, .string a0_5] 23 (0, 0)) (by (with_reducible repeat (first | refine blk_drewN ?_ _ | refine blk_drew ?_ | refine blk_alloc ?_ _)); exact BK123.out) hb); have n3_ := Aside0.mk (blk_below (g := gb130) (o := .cells #[.bool t125, .bool t126, .bool t127, .bool t128] 36 (0, 0)) (by (with_reducible repeat (first | refine blk_drewN ?_ _ | refine blk_drew ?_ | refine blk_alloc ?_ _)); exact BK130.out) hb); have n4_ := Aside0.mk (below_step (by repeat (first | (with_reducible first | exact HB.out | apply below_alloc | apply pw_below_drewN | apply below_drew1 | refine below_set ?_ GE123.out | refine below_set ?_ GE130.out) | exact HB.out)) hb); clear HO133; clear BK123; clear BK130; clear HB; have HO133 := n0_; have HO136 := n1_; have BK123 := n2_; have BK130 := n3_; have HB := n4_; clear n0_ n1_ n2_ n3_ n4_; clear hb ho23; obtain ⟨Ao25, co25, eo25⟩ := Kd.R_slice HO136.out; subst eo25) | ((with_reducible refine gate_builtin (b := .append) (xs := #[.tmp 23, .tmp 30]) rfl ?_); at_builtin; refine Kd.R_append_rows (Kd.int .i64) (w0 := w) w.heap.size rfl (.tmp 23) (.tmp 30) 40 3 (.int .i64 0) 8 rfl Try.underlying40 info3 rfl (by decide) (by omega) v132 y131 y134 _ _ _ (fun k_ => some k_ ≠ (.slice Ao25 y134.length co25 : Value).ownBlock) (fun _ => False) rfl rfl ?aO ?aR (fun _ _ h => h) (fun _ h => h.elim) ?aF ?aB ?aS ?aL ?_; (case aR => repeat (first | exact (Kd.R_reads' HO136.out).2.2 | (with_reducible refine Kd.C_alloc ?_ _) | (with_reducible refine Kd.C_drewN ?_ _) | (with_reducible refine Kd.C_drew ?_))); (case aB => exact (by repeat (first | (with_reducible first | exact HB.out | apply below_alloc | apply pw_below_drewN | apply below_drew1 | refine below_set ?_ GE123.out | refine below_set ?_ GE130.out) | exact HB.out))); (case aF => exact (fun k_ hk => Kd.fresh' (Kd.R_lt (by (with_reducible repeat (first | apply Kd.R_alloc | apply Kd.R_drewN | apply Kd.R_drew)); exact HO136.out)) k_ hk)); (case aO => exact (by (with_reducible repeat (first | apply Kd.R_alloc | apply Kd.R_drewN | apply Kd.R_drew)); exact Kd.R_mono HO133.out (fun _ hk => hk.2))); (case aS => exact (below_size (by repeat (first | (with_reducible first | exact HB.out | apply below_alloc | apply pw_below_drewN | apply below_drew1 | refine below_set ?_ GE123.out | refine below_set ?_ GE130.out) | exact HB.out)))); (case aL => have := LMc19.out; omega); intro v138 w24 ho hb hg hat; rw [← Ny137.out] at ho; have n0_ := Aside0.mk (blk_grown (g := gb123) (o := .cells #[.int .i64 a0_0, .int .i64 a0_1, .int .i64 a0_2, .int .i64 a0_3, .int .i64 a0_4, .string a0_5] 23 (0, 0)) (by (with_reducible repeat (first | refine blk_drewN ?_ _ | refine blk_drew ?_ | refine blk_alloc ?_ _)); exact BK123.out) hg (Kd.R_ne HO133.out BK123.out (by decide))); have n1_ := Aside0.mk (blk_grown (g := gb130) (o := .cells #[.bool t125, .bool t126, .bool t127, .bool t128] 36 (0, 0)) (by (with_reducible repeat (first | refine blk_drewN ?_ _ | refine blk_drew ?_ | refine blk_alloc ?_ _)); exact BK130.out) hg (Kd.R_ne HO133.out BK130.out (by decide))); have n2_ := Aside0.mk (Kd.R_after (ok := (fun _ => True)) (by (with_reducible repeat (first | apply Kd.R_alloc | apply Kd.R_drewN | apply Kd.R_drew)); exact HO136.out) hg hat); have n3_ := Aside0.mk (hb); have n4_ := Aside0.mk (ho); clear BK123; clear BK130; clear HO136; clear HB; clear HO133; have BK123 := n0_; have BK130 := n1_; have HO136 := n2_; have HB := n3_; have HO139 := n4_; clear n0_ n1_ n2_ n3_ n4_; clear ho hb hg hat))
          go_meet
          case rel => exact ⟨_, (y137), H', ⟨by first | omega | exact Nat.le_refl _⟩, ⟨by (with_reducible repeat (first | apply Kd.R_alloc | apply Kd.R_drewN | apply Kd.R_drew)); exact Kd.R_mono HO139.out (fun _ hk => trivial)⟩, ⟨by (with_reducible repeat (first | refine blk_drewN ?_ _ | refine blk_drew ?_ | refine blk_alloc ?_ _)); exact BK123.out⟩, ⟨by (with_reducible repeat (first | refine blk_drewN ?_ _ | refine blk_drew ?_ | refine blk_alloc ?_ _)); exact BK130.out⟩, ⟨by repeat (first | (with_reducible first | exact HB.out | apply below_alloc | apply pw_below_drewN | apply below_drew1 | refine below_set ?_ GE123.out | refine below_set ?_ GE130.out) | exact HB.out)⟩⟩
        · rw [if_neg c19] at H
          exact absurd H (by simp)
      · rw [if_neg c18] at H
        have c18b0 : (t125 || (t126 || (t127 || (!t128)))) = false := by simpa using c18
        clear c18
        (first | rw [c18b0] | (simp only [i64_w, i32_w]; rw [c18b0]) | skip)
        have H' := Aside0.mk H
        clear H
        go_wp2
        go_meet
        case rel => exact ⟨_, (y131), H', ⟨by first | omega | exact Nat.le_refl _⟩, ⟨by (with_reducible repeat (first | apply Kd.R_alloc | apply Kd.R_drewN | apply Kd.R_drew)); exact HO133.out⟩, ⟨by (with_reducible repeat (first | refine blk_drewN ?_ _ | refine blk_drew ?_ | refine blk_alloc ?_ _)); exact BK123.out⟩, ⟨by (with_reducible repeat (first | refine blk_drewN ?_ _ | refine blk_drew ?_ | refine blk_alloc ?_ _)); exact BK130.out⟩, ⟨by repeat (first | (with_reducible first | exact HB.out | apply below_alloc | apply pw_below_drewN | apply below_drew1 | refine below_set ?_ GE123.out | refine below_set ?_ GE130.out) | exact HB.out)⟩⟩
    case rest =>
      clear HC5
      try clear c1
      try clear c2
      try clear p2
      try clear c3
      try clear c10
      try clear c11
      try clear c12
      try clear c18
      try clear c18b0
      try clear c19
      try clear c20
      try clear hcz13_0
      try clear hcz13_1
      try clear hcz13_2
      try clear hcz13_3
      try clear hcz14_0
      try clear hcz14_1
      try clear hcz14_2
      try clear hcz14_3
      try clear hcz14_4
      try clear hcz14_5
      try clear hcz17_0
      try clear hcz17_1
      try clear hcz17_2
      try clear hcz17_3
      try clear hcz21_0
      try clear hcz21_1
      try clear hcz21_2
      try clear hcz21_3
      try clear hcz21_4
      try clear hcz21_5
      try clear hcz7_0
      try clear hcz7_1
      try clear hcz7_2
      try clear hcz7_3
      try clear hcz7_4
      try clear hcz7_5
      try clear hcz9_0
      try clear hcz9_1
      try clear hcz9_2
      try clear hcz9_3
      try clear hcz9_4
      try clear hcz9_5
      try clear hfz13_0
      try clear hfz13_1
      try clear hfz13_2
      try clear hfz13_3
      try clear hfz14_0
      try clear hfz14_1
      try clear hfz14_2
      try clear hfz14_3
      try clear hfz14_4
      try clear hfz14_5
      try clear hfz17_0
      try clear hfz17_1
      try clear hfz17_2
      try clear hfz17_3
      try clear hfz21_0
      try clear hfz21_1
      try clear hfz21_2
      try clear hfz21_3
      try clear hfz21_4
      try clear hfz21_5
      try clear hfz7_0
      try clear hfz7_1
      try clear hfz7_2
      try clear hfz7_3
      try clear hfz7_4
      try clear hfz7_5
      try clear hfz9_0
      try clear hfz9_1
      try clear hfz9_2
      try clear hfz9_3
      try clear hfz9_4
      try clear hfz9_5
      obtain ⟨kq, x6_4, HA, HJ4, HO_6, BK123, BK130, HB⟩ := hcut
      cases kq with
      | zero => exact absurd HA.out (by simp [command_Put.j0])
      | succ kj4 =>
        have H := HA.out
        clear HA
        simp only [command_Put.j0] at H
        by_cases c26 : t126 = true
        · subst c26
          have H1 : (if x6_4.length < 17592186044416 then ((some (x6_4 ++ [a0_4] : List Int)).bind fun y140 => (if t127 = true then (if y140.length < 17592186044416 then ((vlq_PutAll.f kj4 (y140 ++ [(a0_5.size : Int)])).bind fun bt146 => (if bt146.1.length + a0_5.size < 140737488355328 then (some ((bt146.1 ++ bytesOf a0_5), 0)) else (none))) else (none)) else ((vlq_PutAll.f kj4 y140).bind fun bt153 => (if bt153.1.length + a0_5.size < 140737488355328 then (some ((bt153.1 ++ bytesOf a0_5), 0)) else (none))))) else (none)) = some (r1, r2) := by rw [if_pos rfl] at H; exact H
          clear H
          have H := H1
          clear H1
          by_cases c27 : x6_4.length < 17592186044416
          · rw [if_pos c27] at H
            have LMc27 := Aside0.mk c27
            clear c27
            obtain ⟨y140, hy140⟩ : ∃ y_ : List Int, y_ = (x6_4 ++ [a0_4]) := ⟨_, rfl⟩
            replace H : (if t127 = true then (if y140.length < 17592186044416 then ((vlq_PutAll.f kj4 (y140 ++ [(a0_5.size : Int)])).bind fun bt146 => (if bt146.1.length + a0_5.size < 140737488355328 then (some ((bt146.1 ++ bytesOf a0_5), 0)) else (none))) else (none)) else ((vlq_PutAll.f kj4 y140).bind fun bt153 => (if bt153.1.length + a0_5.size < 140737488355328 then (some ((bt153.1 ++ bytesOf a0_5), 0)) else (none)))) = some (r1, r2) := by first | (rw [hy140]; with_reducible exact H) | (have H2_ := (Option.bind_some _ _).symm.trans H; rw [hy140]; with_reducible exact H2_) | (have H2_ := (Option.bind_some _ _).symm.trans H; with_reducible exact H2_) | with_reducible exact H | (rw [hy140]; exact H) | exact H
            have Ny140 := Aside0.mk hy140
            clear hy140
            by_cases c28 : t127 = true
            · subst c28
              have H1 : (if y140.length < 17592186044416 then ((vlq_PutAll.f kj4 (y140 ++ [(a0_5.size : Int)])).bind fun bt146 => (if bt146.1.length + a0_5.size < 140737488355328 then (some ((bt146.1 ++ bytesOf a0_5), 0)) else (none))) else (none)) = some (r1, r2) := by rw [if_pos rfl] at H; exact H
              clear H
              have H := H1
              clear H1
              by_cases c29 : y140.length < 17592186044416
              · rw [if_pos c29] at H
                have LMc29 := Aside0.mk c29
                clear c29
                obtain ⟨y143, hy143⟩ : ∃ y_ : List Int, y_ = (y140 ++ [(a0_5.size : Int)]) := ⟨_, rfl⟩
                replace H : ((vlq_PutAll.f kj4 y143).bind fun bt146 => (if bt146.1.length + a0_5.size < 140737488355328 then (some ((bt146.1 ++ bytesOf a0_5), 0)) else (none))) = some (r1, r2) := by first | (rw [hy143]; with_reducible exact H) | (have H2_ := (Option.bind_some _ _).symm.trans H; rw [hy143]; with_reducible exact H2_) | (have H2_ := (Option.bind_some _ _).symm.trans H; with_reducible exact H2_) | with_reducible exact H | (rw [hy143]; exact H) | exact H
                have Ny143 := Aside0.mk hy143
                clear hy143
                replace H := Option.bind_eq_some_iff.mp H
                obtain ⟨⟨t146, t147⟩, A300, H⟩ := H
                replace H : (if t146.length + a0_5.size < 140737488355328 then (some ((t146 ++ bytesOf a0_5), 0)) else (none)) = some (r1, r2) := H
                have A30 := Aside0.mk A300
                clear A300
                by_cases c31 : t146.length + a0_5.size < 140737488355328
                · rw [if_pos c31] at H
                  have LMc31 := Aside0.mk c31
                  clear c31
                  obtain ⟨y150, hy150⟩ : ∃ y_ : List Int, y_ = (t146 ++ bytesOf a0_5) := ⟨_, rfl⟩
                  replace H : (some (y150, 0)) = some (r1, r2) := by first | (rw [hy150]; with_reducible exact H) | (have H2_ := (Option.bind_some _ _).symm.trans H; rw [hy150]; with_reducible exact H2_) | (have H2_ := (Option.bind_some _ _).symm.trans H; with_reducible exact H2_) | with_reducible exact H | (rw [hy150]; exact H) | exact H
                  have Ny150 := Aside0.mk hy150
                  clear hy150
                  simp only [Option.some.injEq, Prod.mk.injEq] at H
                  obtain ⟨rfl, rfl⟩ := H
                  have hnb32 := NB130_123.out
                  have hnc32 := NB123_130.out
                  have hcz33_0 : wc.cell? ⟨gb130, 0, none⟩ = some (.bool t125) := (blk_cell BK130.out 0).trans rfl
                  have hcz33_1 : wc.cell? ⟨gb130, 1, none⟩ = some (.bool true) := (blk_cell BK130.out 1).trans rfl
                  have hcz33_2 : wc.cell? ⟨gb130, 2, none⟩ = some (.bool true) := (blk_cell BK130.out 2).trans rfl
                  have hcz33_3 : wc.cell? ⟨gb130, 3, none⟩ = some (.bool t128) := (blk_cell BK130.out 3).trans rfl
                  have hfz33_0 := blk_frozen BK130.out 0
                  have hfz33_1 := blk_frozen BK130.out 1
                  have hfz33_2 := blk_frozen BK130.out 2
                  have hfz33_3 := blk_frozen BK130.out 3
                  have hcz34_0 : wc.cell? ⟨gb123, 0, none⟩ = some (.int .i64 a0_0) := (blk_cell BK123.out 0).trans rfl
                  have hcz34_1 : wc.cell? ⟨gb123, 1, none⟩ = some (.int .i64 a0_1) := (blk_cell BK123.out 1).trans rfl
                  have hcz34_2 : wc.cell? ⟨gb123, 2, none⟩ = some (.int .i64 a0_2) := (blk_cell BK123.out 2).trans rfl
                  have hcz34_3 : wc.cell? ⟨gb123, 3, none⟩ = some (.int .i64 a0_3) := (blk_cell BK123.out 3).trans rfl
                  have hcz34_4 : wc.cell? ⟨gb123, 4, none⟩ = some (.int .i64 a0_4) := (blk_cell BK123.out 4).trans rfl
                  have hcz34_5 : wc.cell? ⟨gb123, 5, none⟩ = some (.string a0_5) := (blk_cell BK123.out 5).trans rfl
                  have hfz34_0 := blk_frozen BK123.out 0
                  have hfz34_1 := blk_frozen BK123.out 1
                  have hfz34_2 := blk_frozen BK123.out 2
                  have hfz34_3 := blk_frozen BK123.out 3
                  have hfz34_4 := blk_frozen BK123.out 4
                  have hfz34_5 := blk_frozen BK123.out 5
                  go_wp2_with (first | ((with_reducible refine gate_builtin (b := .append) (xs := #[.tmp 34, .tmp 37]) rfl ?_); at_builtin; refine Kd.R_append (Kd.int .i64) (w0 := w) w.heap.size rfl (.tmp 34) (.tmp 37) 40 3 (.int .i64 0) 8 rfl Try.underlying40 info3 rfl (by decide) (by omega) u6 x6_4 a0_4 [.int .i64 a0_4] (fun _ => True) (fun _ => False) rfl rfl ?aP (fun _ hk => hk.elim) ?aF ?aO ?aB ?aS ?aL ?_; (case aP => exact rfl); (case aB => exact (by repeat (first | (with_reducible first | exact HB.out | apply below_alloc | apply pw_below_drewN | apply below_drew1 | refine below_set ?_ GE123.out | refine below_set ?_ GE130.out) | exact HB.out))); (case aF => exact (fun _ _ => trivial)); (case aO => exact (by (with_reducible repeat (first | apply Kd.R_alloc | apply Kd.R_drewN | apply Kd.R_drew)); exact HO_6.out)); (case aS => exact (below_size (by repeat (first | (with_reducible first | exact HB.out | apply below_alloc | apply pw_below_drewN | apply below_drew1 | refine below_set ?_ GE123.out | refine below_set ?_ GE130.out) | exact HB.out)))); (case aL => have := LMc27.out; omega); intro v141 w35 ho hb hg hat; rw [← Ny140.out] at ho; have n0_ := Aside0.mk (blk_grown (g := gb123) (o := .cells #[.int .i64 a0_0, .int .i64 a0_1, .int .i64 a0_2, .int .i64 a0_3, .int .i64 a0_4, .string a0_5] 23 (0, 0)) (by (with_reducible repeat (first | refine blk_drewN ?_ _ | refine blk_drew ?_ | refine blk_alloc ?_ _)); exact BK123.out) hg (Kd.R_ne HO_6.out BK123.out (by decide))); have n1_ := Aside0.mk (blk_grown (g := gb130) (o := .cells #[.bool t125, .bool true, .bool true, .bool t128] 36 (0, 0)) (by (with_reducible repeat (first | refine blk_drewN ?_ _ | refine blk_drew ?_ | refine blk_alloc ?_ _)); exact BK130.out) hg (Kd.R_ne HO_6.out BK130.out (by decide))); have n2_ := Aside0.mk (hb); have n3_ := Aside0.mk (ho); clear BK123; clear BK130; clear HB; clear HO_6; have BK123 := n0_; have BK130 := n1_; have HB := n2_; have HO142 := n3_; clear n0_ n1_ n2_ n3_; clear ho hb hg hat; have hcz36_0 : w35.cell? ⟨gb130, 0, none⟩ = some (.bool t125) := (blk_cell BK130.out 0).trans rfl; have hcz36_1 : w35.cell? ⟨gb130, 1, none⟩ = some (.bool true) := (blk_cell BK130.out 1).trans rfl; have hcz36_2 : w35.cell? ⟨gb130, 2, none⟩ = some (.bool true) := (blk_cell BK130.out 2).trans rfl; have hcz36_3 : w35.cell? ⟨gb130, 3, none⟩ = some (.bool t128) := (blk_cell BK130.out 3).trans rfl; have hfz36_0 := blk_frozen BK130.out 0; have hfz36_1 := blk_frozen BK130.out 1; have hfz36_2 := blk_frozen BK130.out 2; have hfz36_3 := blk_frozen BK130.out 3; have hcz37_0 : w35.cell? ⟨gb123, 0, none⟩ = some (.int .i64 a0_0) := (blk_cell BK123.out 0).trans rfl; have hcz37_1 : w35.cell? ⟨gb123, 1, none⟩ = some (.int .i64 a0_1) := (blk_cell BK123.out 1).trans rfl; have hcz37_2 : w35.cell? ⟨gb123, 2, none⟩ = some (.int .i64 a0_2) := (blk_cell BK123.out 2).trans rfl; have hcz37_3 : w35.cell? ⟨gb123, 3, none⟩ = some (.int .i64 a0_3) := (blk_cell BK123.out 3).trans rfl; have hcz37_4 : w35.cell? ⟨gb123, 4, none⟩ = some (.int .i64 a0_4) := (blk_cell BK123.out 4).trans rfl; have hcz37_5 : w35.cell? ⟨gb123, 5, none⟩ = some (.string a0_5) := (blk_cell BK123.out 5).trans rfl; have hfz37_0 := blk_frozen BK123.out 0; have hfz37_1 := blk_frozen BK123.out 1; have hfz37_2 := blk_frozen BK123.out 2; have hfz37_3 := blk_frozen BK123.out 3; have hfz37_4 := blk_frozen BK123.out 4; have hfz37_5 := blk_frozen BK123.out 5) | ((with_reducible refine gate_builtin (b := .append) (xs := #[.tmp 41, .tmp 45]) rfl ?_); at_builtin; refine Kd.R_append (Kd.int .i64) (w0 := w) w.heap.size rfl (.tmp 41) (.tmp 45) 40 3 (.int .i64 0) 8 rfl Try.underlying40 info3 rfl (by decide) (by omega) v141 y140 (a0_5.size : Int) [.int .i64 (a0_5.size : Int)] (fun _ => True) (fun _ => False) rfl rfl ?aP (fun _ hk => hk.elim) ?aF ?aO ?aB ?aS ?aL ?_; (case aP => exact rfl); (case aB => exact (by repeat (first | (with_reducible first | exact HB.out | apply below_alloc | apply pw_below_drewN | apply below_drew1 | refine below_set ?_ GE123.out | refine below_set ?_ GE130.out) | exact HB.out))); (case aF => exact (fun _ _ => trivial)); (case aO => exact (by (with_reducible repeat (first | apply Kd.R_alloc | apply Kd.R_drewN | apply Kd.R_drew)); exact HO142.out)); (case aS => exact (below_size (by repeat (first | (with_reducible first | exact HB.out | apply below_alloc | apply pw_below_drewN | apply below_drew1 | refine below_set ?_ GE123.out | refine below_set ?_ GE130.out) | exact HB.out)))); (case aL => have := LMc29.out; omega); intro v144 w38 ho hb hg hat; rw [← Ny143.out] at ho; have n0_ := Aside0.mk (blk_grown (g := gb123) (o := .cells #[.int .i64 a0_0, .int .i64 a0_1, .int .i64 a0_2, .int .i64 a0_3, .int .i64 a0_4, .string a0_5] 23 (0, 0)) (by (with_reducible repeat (first | refine blk_drewN ?_ _ | refine blk_drew ?_ | refine blk_alloc ?_ _)); exact BK123.out) hg (Kd.R_ne HO142.out BK123.out (by decide))); have n1_ := Aside0.mk (blk_grown (g := gb130) (o := .cells #[.bool t125, .bool true, .bool true, .bool t128] 36 (0, 0)) (by (with_reducible repeat (first | refine blk_drewN ?_ _ | refine blk_drew ?_ | refine blk_alloc ?_ _)); exact BK130.out) hg (Kd.R_ne HO142.out BK130.out (by decide))); have n2_ := Aside0.mk (hb); have n3_ := Aside0.mk (ho); clear BK123; clear BK130; clear HB; clear HO142; have BK123 := n0_; have BK130 := n1_; have HB := n2_; have HO145 := n3_; clear n0_ n1_ n2_ n3_; clear ho hb hg hat; obtain ⟨Ao39, co39, eo39⟩ := Kd.R_slice HO145.out; subst eo39) | ((with_reducible refine gate_callee (f := 20) rfl ?_); refine goesL_ (some 49) rfl rfl Try.func20 (by kernel_rfl) rfl #[.slice Ao39 y143.length co39] rfl (by (try simp only [List.map_toArray, List.map_cons, List.map_nil]); first | done | rfl | (simp only [List.length_drop, List.length_take]; rfl)) ?_; (with_reducible refine (vlq_PutAll.calls kj4 _ _ y143 t146 t147 _ ?side1 ?side2 A30.out).mono ?_); (case side1 => repeat (first | exact (Kd.R_reads' HO145.out).2.2 | (with_reducible refine Kd.C_alloc ?_ _) | (with_reducible refine Kd.C_drewN ?_ _) | (with_reducible refine Kd.C_drew ?_))); (case side2 => exact (Kd.R_reads' HO145.out).2.1); rintro e w40 ⟨v148, rfl, ho0, hb⟩; refine ⟨_, rfl, ?_⟩; have n0_ := Aside0.mk (Kd.R_below (by (with_reducible repeat (first | apply Kd.R_alloc | apply Kd.R_drewN | apply Kd.R_drew)); exact HO145.out) hb); have n1_ := Aside0.mk (Kd.R_lower ho0 (below_size (by repeat (first | (with_reducible first | exact HB.out | apply below_alloc | apply pw_below_drewN | apply below_drew1 | refine below_set ?_ GE123.out | refine below_set ?_ GE130.out) | exact HB.out)))); have n2_ := Aside0.mk (blk_below (g := gb123) (o := .cells #[.int .i64 a0_0, .int .i64 a0_1, .int .i64 a0_2, .int .i64 a0_3, .int .i64 a0_4, .string a0_5] 23 (0, 0)) (by (with_reducible repeat (first | refine blk_drewN ?_ _ | refine blk_drew ?_ | refine blk_alloc ?_ _)); exact BK123.out) hb); have n3_ := Aside0.mk (blk_below (g := gb130) (o := .cells #[.bool t125, .bool true, .bool true, .bool t128] 36 (0, 0)) (by (with_reducible repeat (first | refine blk_drewN ?_ _ | refine blk_drew ?_ | refine blk_alloc ?_ _)); exact BK130.out) hb); have n4_ := Aside0.mk (below_step (by repeat (first | (with_reducible first | exact HB.out | apply below_alloc | apply pw_below_drewN | apply below_drew1 | refine below_set ?_ GE123.out | refine below_set ?_ GE130.out) | exact HB.out)) hb); clear HO145; clear BK123; clear BK130; clear HB; have HO145 := n0_; have HO149 := n1_; have BK123 := n2_; have BK130 := n3_; have HB := n4_; clear n0_ n1_ n2_ n3_ n4_; (try clear hb); (try clear hb2); (try clear hk); (try clear hi); (try clear ho0); have hcz41_0 : w40.cell? ⟨gb123, 0, none⟩ = some (.int .i64 a0_0) := (blk_cell BK123.out 0).trans rfl; have hcz41_1 : w40.cell? ⟨gb123, 1, none⟩ = some (.int .i64 a0_1) := (blk_cell BK123.out 1).trans rfl; have hcz41_2 : w40.cell? ⟨gb123, 2, none⟩ = some (.int .i64 a0_2) := (blk_cell BK123.out 2).trans rfl; have hcz41_3 : w40.cell? ⟨gb123, 3, none⟩ = some (.int .i64 a0_3) := (blk_cell BK123.out 3).trans rfl; have hcz41_4 : w40.cell? ⟨gb123, 4, none⟩ = some (.int .i64 a0_4) := (blk_cell BK123.out 4).trans rfl; have hcz41_5 : w40.cell? ⟨gb123, 5, none⟩ = some (.string a0_5) := (blk_cell BK123.out 5).trans rfl; have hfz41_0 := blk_frozen BK123.out 0; have hfz41_1 := blk_frozen BK123.out 1; have hfz41_2 := blk_frozen BK123.out 2; have hfz41_3 := blk_frozen BK123.out 3; have hfz41_4 := blk_frozen BK123.out 4; have hfz41_5 := blk_frozen BK123.out 5) | (at_builtin; refine print_append_str (w0 := w) w.heap.size rfl (.tmp 52) _ 26 9 5 rfl Try.underlying26 Try.underlying9 info5 v148 t146 a0_5 rfl rfl ?aO ?aB ?aS ?aL ?_; (case aB => exact (by repeat (first | (with_reducible first | exact HB.out | apply below_alloc | apply pw_below_drewN | apply below_drew1 | refine below_set ?_ GE123.out | refine below_set ?_ GE130.out) | exact HB.out))); (case aO => exact (Kd.own_of_R (by (with_reducible repeat (first | apply Kd.R_alloc | apply Kd.R_drewN | apply Kd.R_drew)); exact HO149.out))); (case aS => exact (below_size (by repeat (first | (with_reducible first | exact HB.out | apply below_alloc | apply pw_below_drewN | apply below_drew1 | refine below_set ?_ GE123.out | refine below_set ?_ GE130.out) | exact HB.out)))); (case aL => have := LMc31.out; omega); intro v151 w42 ho0 hb hg; have ho := Kd.R_of_own (h1 := fun _ => rfl) (ok := fun _ => True) ho0 (fun _ _ => trivial); clear ho0; have hat := True.intro; rw [← Ny150.out] at ho; change Kd.R (Kd.int .u8) 5 w42 w.heap.size (fun _ => True) v151 y150 at ho; have n0_ := Aside0.mk (blk_grown (g := gb123) (o := .cells #[.int .i64 a0_0, .int .i64 a0_1, .int .i64 a0_2, .int .i64 a0_3, .int .i64 a0_4, .string a0_5] 23 (0, 0)) (by (with_reducible repeat (first | refine blk_drewN ?_ _ | refine blk_drew ?_ | refine blk_alloc ?_ _)); exact BK123.out) hg (Kd.R_ne HO149.out BK123.out (by decide))); have n1_ := Aside0.mk (blk_grown (g := gb130) (o := .cells #[.bool t125, .bool true, .bool true, .bool t128] 36 (0, 0)) (by (with_reducible repeat (first | refine blk_drewN ?_ _ | refine blk_drew ?_ | refine blk_alloc ?_ _)); exact BK130.out) hg (Kd.R_ne HO149.out BK130.out (by decide))); have n2_ := Aside0.mk (Kd.R_over' (by (with_reducible repeat (first | apply Kd.R_alloc | apply Kd.R_drewN | apply Kd.R_drew)); exact HO145.out) (Kd.R_typed (by (with_reducible repeat (first | apply Kd.R_alloc | apply Kd.R_drewN | apply Kd.R_drew)); exact HO149.out)) (by decide) hg); have n3_ := Aside0.mk (hb); have n4_ := Aside0.mk (ho); clear BK123; clear BK130; clear HO145; clear HB; clear HO149; have BK123 := n0_; have BK130 := n1_; have HO145 := n2_; have HB := n3_; have HO152 := n4_; clear n0_ n1_ n2_ n3_ n4_; clear ho hb hg hat))
                  go_ret2
                  exact ⟨_, by first | rfl | (simp [errW_none, errW_some] <;> rfl) | (simp [*, errW_none, errW_some] <;> rfl), by (with_reducible repeat (first | apply Kd.R_alloc | apply Kd.R_drewN | apply Kd.R_drew)); exact HO152.out, by repeat (first | (with_reducible first | exact HB.out | apply below_alloc | apply pw_below_drewN | apply below_drew1 | refine below_set ?_ GE123.out | refine below_set ?_ GE130.out) | exact HB.out)⟩
                · rw [if_neg c31] at H
                  exact absurd H (by simp)
              · rw [if_neg c29] at H
                exact absurd H (by simp)
            · replace c28 := Bool.eq_false_iff.mpr c28
              subst c28
              have H1 : ((vlq_PutAll.f kj4 y140).bind fun bt153 => (if bt153.1.length + a0_5.size < 140737488355328 then (some ((bt153.1 ++ bytesOf a0_5), 0)) else (none))) = some (r1, r2) := by rw [if_neg (show ¬ (false = true) by decide)] at H; exact H
              clear H
              have H := H1
              clear H1
              replace H := Option.bind_eq_some_iff.mp H
              obtain ⟨⟨t153, t154⟩, A430, H⟩ := H
              replace H : (if t153.length + a0_5.size < 140737488355328 then (some ((t153 ++ bytesOf a0_5), 0)) else (none)) = some (r1, r2) := H
              have A43 := Aside0.mk A430
              clear A430
              by_cases c44 : t153.length + a0_5.size < 140737488355328
              · rw [if_pos c44] at H
                have LMc44 := Aside0.mk c44
                clear c44
                obtain ⟨y157, hy157⟩ : ∃ y_ : List Int, y_ = (t153 ++ bytesOf a0_5) := ⟨_, rfl⟩
                replace H : (some (y157, 0)) = some (r1, r2) := by first | (rw [hy157]; with_reducible exact H) | (have H2_ := (Option.bind_some _ _).symm.trans H; rw [hy157]; with_reducible exact H2_) | (have H2_ := (Option.bind_some _ _).symm.trans H; with_reducible exact H2_) | with_reducible exact H | (rw [hy157]; exact H) | exact H
                have Ny157 := Aside0.mk hy157
                clear hy157
                simp only [Option.some.injEq, Prod.mk.injEq] at H
                obtain ⟨rfl, rfl⟩ := H
                have hnb45 := NB130_123.out
                have hnc45 := NB123_130.out
                have hcz46_0 : wc.cell? ⟨gb130, 0, none⟩ = some (.bool t125) := (blk_cell BK130.out 0).trans rfl
                have hcz46_1 : wc.cell? ⟨gb130, 1, none⟩ = some (.bool true) := (blk_cell BK130.out 1).trans rfl
                have hcz46_2 : wc.cell? ⟨gb130, 2, none⟩ = some (.bool false) := (blk_cell BK130.out 2).trans rfl
                have hcz46_3 : wc.cell? ⟨gb130, 3, none⟩ = some (.bool t128) := (blk_cell BK130.out 3).trans rfl
                have hfz46_0 := blk_frozen BK130.out 0
                have hfz46_1 := blk_frozen BK130.out 1
                have hfz46_2 := blk_frozen BK130.out 2
                have hfz46_3 := blk_frozen BK130.out 3
                have hcz47_0 : wc.cell? ⟨gb123, 0, none⟩ = some (.int .i64 a0_0) := (blk_cell BK123.out 0).trans rfl
                have hcz47_1 : wc.cell? ⟨gb123, 1, none⟩ = some (.int .i64 a0_1) := (blk_cell BK123.out 1).trans rfl
                have hcz47_2 : wc.cell? ⟨gb123, 2, none⟩ = some (.int .i64 a0_2) := (blk_cell BK123.out 2).trans rfl
                have hcz47_3 : wc.cell? ⟨gb123, 3, none⟩ = some (.int .i64 a0_3) := (blk_cell BK123.out 3).trans rfl
                have hcz47_4 : wc.cell? ⟨gb123, 4, none⟩ = some (.int .i64 a0_4) := (blk_cell BK123.out 4).trans rfl
                have hcz47_5 : wc.cell? ⟨gb123, 5, none⟩ = some (.string a0_5) := (blk_cell BK123.out 5).trans rfl
                have hfz47_0 := blk_frozen BK123.out 0
                have hfz47_1 := blk_frozen BK123.out 1
                have hfz47_2 := blk_frozen BK123.out 2
                have hfz47_3 := blk_frozen BK123.out 3
                have hfz47_4 := blk_frozen BK123.out 4
                have hfz47_5 := blk_frozen BK123.out 5
                go_wp2_with (first | ((with_reducible refine gate_builtin (b := .append) (xs := #[.tmp 34, .tmp 37]) rfl ?_); at_builtin; refine Kd.R_append (Kd.int .i64) (w0 := w) w.heap.size rfl (.tmp 34) (.tmp 37) 40 3 (.int .i64 0) 8 rfl Try.underlying40 info3 rfl (by decide) (by omega) u6 x6_4 a0_4 [.int .i64 a0_4] (fun _ => True) (fun _ => False) rfl rfl ?aP (fun _ hk => hk.elim) ?aF ?aO ?aB ?aS ?aL ?_; (case aP => exact rfl); (case aB => exact (by repeat (first | (with_reducible first | exact HB.out | apply below_alloc | apply pw_below_drewN | apply below_drew1 | refine below_set ?_ GE123.out | refine below_set ?_ GE130.out) | exact HB.out))); (case aF => exact (fun _ _ => trivial)); (case aO => exact (by (with_reducible repeat (first | apply Kd.R_alloc | apply Kd.R_drewN | apply Kd.R_drew)); exact HO_6.out)); (case aS => exact (below_size (by repeat (first | (with_reducible first | exact HB.out | apply below_alloc | apply pw_below_drewN | apply below_drew1 | refine below_set ?_ GE123.out | refine below_set ?_ GE130.out) | exact HB.out)))); (case aL => have := LMc27.out; omega); intro v141 w48 ho hb hg hat; rw [← Ny140.out] at ho; have n0_ := Aside0.mk (blk_grown (g := gb123) (o := .cells #[.int .i64 a0_0, .int .i64 a0_1, .int .i64 a0_2, .int .i64 a0_3, .int .i64 a0_4, .string a0_5] 23 (0, 0)) (by (with_reducible repeat (first | refine blk_drewN ?_ _ | refine blk_drew ?_ | refine blk_alloc ?_ _)); exact BK123.out) hg (Kd.R_ne HO_6.out BK123.out (by decide))); have n1_ := Aside0.mk (blk_grown (g := gb130) (o := .cells #[.bool t125, .bool true, .bool false, .bool t128] 36 (0, 0)) (by (with_reducible repeat (first | refine blk_drewN ?_ _ | refine blk_drew ?_ | refine blk_alloc ?_ _)); exact BK130.out) hg (Kd.R_ne HO_6.out BK130.out (by decide))); have n2_ := Aside0.mk (hb); have n3_ := Aside0.mk (ho); clear BK123; clear BK130; clear HB; clear HO_6; have BK123 := n0_; have BK130 := n1_; have HB := n2_; have HO142 := n3_; clear n0_ n1_ n2_ n3_; clear ho hb hg hat; have hcz49_0 : w48.cell? ⟨gb130, 0, none⟩ = some (.bool t125) := (blk_cell BK130.out 0).trans rfl; have hcz49_1 : w48.cell? ⟨gb130, 1, none⟩ = some (.bool true) := (blk_cell BK130.out 1).trans rfl; have hcz49_2 : w48.cell? ⟨gb130, 2, none⟩ = some (.bool false) := (blk_cell BK130.out 2).trans rfl; have hcz49_3 : w48.cell? ⟨gb130, 3, none⟩ = some (.bool t128) := (blk_cell BK130.out 3).trans rfl; have hfz49_0 := blk_frozen BK130.out 0; have hfz49_1 := blk_frozen BK130.out 1; have hfz49_2 := blk_frozen BK130.out 2; have hfz49_3 := blk_frozen BK130.out 3; obtain ⟨Ao50, co50, eo50⟩ := Kd.R_slice HO142.out; subst eo50) | ((with_reducible refine gate_callee (f := 20) rfl ?_); refine goesL_ (some 49) rfl rfl Try.func20 (by kernel_rfl) rfl #[.slice Ao50 y140.length co50] rfl (by (try simp only [List.map_toArray, List.map_cons, List.map_nil]); first | done | rfl | (simp only [List.length_drop, List.length_take]; rfl)) ?_; (with_reducible refine (vlq_PutAll.calls kj4 _ _ y140 t153 t154 _ ?side1 ?side2 A43.out).mono ?_); (case side1 => repeat (first | exact (Kd.R_reads' HO142.out).2.2 | (with_reducible refine Kd.C_alloc ?_ _) | (with_reducible refine Kd.C_drewN ?_ _) | (with_reducible refine Kd.C_drew ?_))); (case side2 => exact (Kd.R_reads' HO142.out).2.1); rintro e w51 ⟨v155, rfl, ho0, hb⟩; refine ⟨_, rfl, ?_⟩; have n0_ := Aside0.mk (Kd.R_below (by (with_reducible repeat (first | apply Kd.R_alloc | apply Kd.R_drewN | apply Kd.R_drew)); exact HO142.out) hb); have n1_ := Aside0.mk (Kd.R_lower ho0 (below_size (by repeat (first | (with_reducible first | exact HB.out | apply below_alloc | apply pw_below_drewN | apply below_drew1 | refine below_set ?_ GE123.out | refine below_set ?_ GE130.out) | exact HB.out)))); have n2_ := Aside0.mk (blk_below (g := gb123) (o := .cells #[.int .i64 a0_0, .int .i64 a0_1, .int .i64 a0_2, .int .i64 a0_3, .int .i64 a0_4, .string a0_5] 23 (0, 0)) (by (with_reducible repeat (first | refine blk_drewN ?_ _ | refine blk_drew ?_ | refine blk_alloc ?_ _)); exact BK123.out) hb); have n3_ := Aside0.mk (blk_below (g := gb130) (o := .cells #[.bool t125, .bool true, .bool false, .bool t128] 36 (0, 0)) (by (with_reducible repeat (first | refine blk_drewN ?_ _ | refine blk_drew ?_ | refine blk_alloc ?_ _)); exact BK130.out) hb); have n4_ := Aside0.mk (below_step (by repeat (first | (with_reducible first | exact HB.out | apply below_alloc | apply pw_below_drewN | apply below_drew1 | refine below_set ?_ GE123.out | refine below_set ?_ GE130.out) | exact HB.out)) hb); clear HO142; clear BK123; clear BK130; clear HB; have HO142 := n0_; have HO156 := n1_; have BK123 := n2_; have BK130 := n3_; have HB := n4_; clear n0_ n1_ n2_ n3_ n4_; (try clear hb); (try clear hb2); (try clear hk); (try clear hi); (try clear ho0); have hcz52_0 : w51.cell? ⟨gb123, 0, none⟩ = some (.int .i64 a0_0) := (blk_cell BK123.out 0).trans rfl; have hcz52_1 : w51.cell? ⟨gb123, 1, none⟩ = some (.int .i64 a0_1) := (blk_cell BK123.out 1).trans rfl; have hcz52_2 : w51.cell? ⟨gb123, 2, none⟩ = some (.int .i64 a0_2) := (blk_cell BK123.out 2).trans rfl; have hcz52_3 : w51.cell? ⟨gb123, 3, none⟩ = some (.int .i64 a0_3) := (blk_cell BK123.out 3).trans rfl; have hcz52_4 : w51.cell? ⟨gb123, 4, none⟩ = some (.int .i64 a0_4) := (blk_cell BK123.out 4).trans rfl; have hcz52_5 : w51.cell? ⟨gb123, 5, none⟩ = some (.string a0_5) := (blk_cell BK123.out 5).trans rfl; have hfz52_0 := blk_frozen BK123.out 0; have hfz52_1 := blk_frozen BK123.out 1; have hfz52_2 := blk_frozen BK123.out 2; have hfz52_3 := blk_frozen BK123.out 3; have hfz52_4 := blk_frozen BK123.out 4; have hfz52_5 := blk_frozen BK123.out 5) | (at_builtin; refine print_append_str (w0 := w) w.heap.size rfl (.tmp 52) _ 26 9 5 rfl Try.underlying26 Try.underlying9 info5 v155 t153 a0_5 rfl rfl ?aO ?aB ?aS ?aL ?_; (case aB => exact (by repeat (first | (with_reducible first | exact HB.out | apply below_alloc | apply pw_below_drewN | apply below_drew1 | refine below_set ?_ GE123.out | refine below_set ?_ GE130.out) | exact HB.out))); (case aO => exact (Kd.own_of_R (by (with_reducible repeat (first | apply Kd.R_alloc | apply Kd.R_drewN | apply Kd.R_drew)); exact HO156.out))); (case aS => exact (below_size (by repeat (first | (with_reducible first | exact HB.out | apply below_alloc | apply pw_below_drewN | apply below_drew1 | refine below_set ?_ GE123.out | refine below_set ?_ GE130.out) | exact HB.out)))); (case aL => have := LMc44.out; omega); intro v158 w53 ho0 hb hg; have ho := Kd.R_of_own (h1 := fun _ => rfl) (ok := fun _ => True) ho0 (fun _ _ => trivial); clear ho0; have hat := True.intro; rw [← Ny157.out] at ho; change Kd.R (Kd.int .u8) 5 w53 w.heap.size (fun _ => True) v158 y157 at ho; have n0_ := Aside0.mk (blk_grown (g := gb123) (o := .cells #[.int .i64 a0_0, .int .i64 a0_1, .int .i64 a0_2, .int .i64 a0_3, .int .i64 a0_4, .string a0_5] 23 (0, 0)) (by (with_reducible repeat (first | refine blk_drewN ?_ _ | refine blk_drew ?_ | refine blk_alloc ?_ _)); exact BK123.out) hg (Kd.R_ne HO156.out BK123.out (by decide))); have n1_ := Aside0.mk (blk_grown (g := gb130) (o := .cells #[.bool t125, .bool true, .bool false, .bool t128] 36 (0, 0)) (by (with_reducible repeat (first | refine blk_drewN ?_ _ | refine blk_drew ?_ | refine blk_alloc ?_ _)); exact BK130.out) hg (Kd.R_ne HO156.out BK130.out (by decide))); have n2_ := Aside0.mk (Kd.R_over' (by (with_reducible repeat (first | apply Kd.R_alloc | apply Kd.R_drewN | apply Kd.R_drew)); exact HO142.out) (Kd.R_typed (by (with_reducible repeat (first | apply Kd.R_alloc | apply Kd.R_drewN | apply Kd.R_drew)); exact HO156.out)) (by decide) hg); have n3_ := Aside0.mk (hb); have n4_ := Aside0.mk (ho); clear BK123; clear BK130; clear HO142; clear HB; clear HO156; have BK123 := n0_; have BK130 := n1_; have HO142 := n2_; have HB := n3_; have HO159 := n4_; clear n0_ n1_ n2_ n3_ n4_; clear ho hb hg hat))
                go_ret2
                exact ⟨_, by first | rfl | (simp [errW_none, errW_some] <;> rfl) | (simp [*, errW_none, errW_some] <;> rfl), by (with_reducible repeat (first | apply Kd.R_alloc | apply Kd.R_drewN | apply Kd.R_drew)); exact HO159.out, by repeat (first | (with_reducible first | exact HB.out | apply below_alloc | apply pw_below_drewN | apply below_drew1 | refine below_set ?_ GE123.out | refine below_set ?_ GE130.out) | exact HB.out)⟩
              · rw [if_neg c44] at H
                exact absurd H (by simp)
          · rw [if_neg c27] at H
            exact absurd H (by simp)
        · replace c26 := Bool.eq_false_iff.mpr c26
          subst c26
          have H1 : (if t127 = true then (if x6_4.length < 17592186044416 then ((vlq_PutAll.f kj4 (x6_4 ++ [(a0_5.size : Int)])).bind fun bt163 => (if bt163.1.length + a0_5.size < 140737488355328 then (some ((bt163.1 ++ bytesOf a0_5), 0)) else (none))) else (none)) else ((vlq_PutAll.f kj4 x6_4).bind fun bt170 => (if bt170.1.length + a0_5.size < 140737488355328 then (some ((bt170.1 ++ bytesOf a0_5), 0)) else (none)))) = some (r1, r2) := by rw [if_neg (show ¬ (false = true) by decide)] at H; exact H
          clear H
          have H := H1
          clear H1
          by_cases c54 : t127 = true
          · subst c54
            have H1 : (if x6_4.length < 17592186044416 then ((vlq_PutAll.f kj4 (x6_4 ++ [(a0_5.size : Int)])).bind fun bt163 => (if bt163.1.length + a0_5.size < 140737488355328 then (some ((bt163.1 ++ bytesOf a0_5), 0)) else (none))) else (none)) = some (r1, r2) := by rw [if_pos rfl] at H; exact H
            clear H
            have H := H1
            clear H1
            by_cases c55 : x6_4.length < 17592186044416
            · rw [if_pos c55] at H
              have LMc55 := Aside0.mk c55
              clear c55
              obtain ⟨y160, hy160⟩ : ∃ y_ : List Int, y_ = (x6_4 ++ [(a0_5.size : Int)]) := ⟨_, rfl⟩
              replace H : ((vlq_PutAll.f kj4 y160).bind fun bt163 => (if bt163.1.length + a0_5.size < 140737488355328 then (some ((bt163.1 ++ bytesOf a0_5), 0)) else (none))) = some (r1, r2) := by first | (rw [hy160]; with_reducible exact H) | (have H2_ := (Option.bind_some _ _).symm.trans H; rw [hy160]; with_reducible exact H2_) | (have H2_ := (Option.bind_some _ _).symm.trans H; with_reducible exact H2_) | with_reducible exact H | (rw [hy160]; exact H) | exact H
              have Ny160 := Aside0.mk hy160
              clear hy160
              replace H := Option.bind_eq_some_iff.mp H
              obtain ⟨⟨t163, t164⟩, A560, H⟩ := H
              replace H : (if t163.length + a0_5.size < 140737488355328 then (some ((t163 ++ bytesOf a0_5), 0)) else (none)) = some (r1, r2) := H
              have A56 := Aside0.mk A560
              clear A560
              by_cases c57 : t163.length + a0_5.size < 140737488355328
              · rw [if_pos c57] at H
                have LMc57 := Aside0.mk c57
                clear c57
                obtain ⟨y167, hy167⟩ : ∃ y_ : List Int, y_ = (t163 ++ bytesOf a0_5) := ⟨_, rfl⟩
                replace H : (some (y167, 0)) = some (r1, r2) := by first | (rw [hy167]; with_reducible exact H) | (have H2_ := (Option.bind_some _ _).symm.trans H; rw [hy167]; with_reducible exact H2_) | (have H2_ := (Option.bind_some _ _).symm.trans H; with_reducible exact H2_) | with_reducible exact H | (rw [hy167]; exact H) | exact H
                have Ny167 := Aside0.mk hy167
                clear hy167
                simp only [Option.some.injEq, Prod.mk.injEq] at H
                obtain ⟨rfl, rfl⟩ := H
                have hnb58 := NB130_123.out
                have hnc58 := NB123_130.out
                have hcz59_0 : wc.cell? ⟨gb130, 0, none⟩ = some (.bool t125) := (blk_cell BK130.out 0).trans rfl
                have hcz59_1 : wc.cell? ⟨gb130, 1, none⟩ = some (.bool false) := (blk_cell BK130.out 1).trans rfl
                have hcz59_2 : wc.cell? ⟨gb130, 2, none⟩ = some (.bool true) := (blk_cell BK130.out 2).trans rfl
                have hcz59_3 : wc.cell? ⟨gb130, 3, none⟩ = some (.bool t128) := (blk_cell BK130.out 3).trans rfl
                have hfz59_0 := blk_frozen BK130.out 0
                have hfz59_1 := blk_frozen BK130.out 1
                have hfz59_2 := blk_frozen BK130.out 2
                have hfz59_3 := blk_frozen BK130.out 3
                have hcz60_0 : wc.cell? ⟨gb123, 0, none⟩ = some (.int .i64 a0_0) := (blk_cell BK123.out 0).trans rfl
                have hcz60_1 : wc.cell? ⟨gb123, 1, none⟩ = some (.int .i64 a0_1) := (blk_cell BK123.out 1).trans rfl
                have hcz60_2 : wc.cell? ⟨gb123, 2, none⟩ = some (.int .i64 a0_2) := (blk_cell BK123.out 2).trans rfl
                have hcz60_3 : wc.cell? ⟨gb123, 3, none⟩ = some (.int .i64 a0_3) := (blk_cell BK123.out 3).trans rfl
                have hcz60_4 : wc.cell? ⟨gb123, 4, none⟩ = some (.int .i64 a0_4) := (blk_cell BK123.out 4).trans rfl
                have hcz60_5 : wc.cell? ⟨gb123, 5, none⟩ = some (.string a0_5) := (blk_cell BK123.out 5).trans rfl
                have hfz60_0 := blk_frozen BK123.out 0
                have hfz60_1 := blk_frozen BK123.out 1
                have hfz60_2 := blk_frozen BK123.out 2
                have hfz60_3 := blk_frozen BK123.out 3
                have hfz60_4 := blk_frozen BK123.out 4
                have hfz60_5 := blk_frozen BK123.out 5
                go_wp2_with (first | ((with_reducible refine gate_builtin (b := .append) (xs := #[.tmp 41, .tmp 45]) rfl ?_); at_builtin; refine Kd.R_append (Kd.int .i64) (w0 := w) w.heap.size rfl (.tmp 41) (.tmp 45) 40 3 (.int .i64 0) 8 rfl Try.underlying40 info3 rfl (by decide) (by omega) u6 x6_4 (a0_5.size : Int) [.int .i64 (a0_5.size : Int)] (fun _ => True) (fun _ => False) rfl rfl ?aP (fun _ hk => hk.elim) ?aF ?aO ?aB ?aS ?aL ?_; (case aP => exact rfl); (case aB => exact (by repeat (first | (with_reducible first | exact HB.out | apply below_alloc | apply pw_below_drewN | apply below_drew1 | refine below_set ?_ GE123.out | refine below_set ?_ GE130.out) | exact HB.out))); (case aF => exact (fun _ _ => trivial)); (case aO => exact (by (with_reducible repeat (first | apply Kd.R_alloc | apply Kd.R_drewN | apply Kd.R_drew)); exact HO_6.out)); (case aS => exact (below_size (by repeat (first | (with_reducible first | exact HB.out | apply below_alloc | apply pw_below_drewN | apply below_drew1 | refine below_set ?_ GE123.out | refine below_set ?_ GE130.out) | exact HB.out)))); (case aL => have := LMc55.out; omega); intro v161 w61 ho hb hg hat; rw [← Ny160.out] at ho; have n0_ := Aside0.mk (blk_grown (g := gb123) (o := .cells #[.int .i64 a0_0, .int .i64 a0_1, .int .i64 a0_2, .int .i64 a0_3, .int .i64 a0_4, .string a0_5] 23 (0, 0)) (by (with_reducible repeat (first | refine blk_drewN ?_ _ | refine blk_drew ?_ | refine blk_alloc ?_ _)); exact BK123.out) hg (Kd.R_ne HO_6.out BK123.out (by decide))); have n1_ := Aside0.mk (blk_grown (g := gb130) (o := .cells #[.bool t125, .bool false, .bool true, .bool t128] 36 (0, 0)) (by (with_reducible repeat (first | refine blk_drewN ?_ _ | refine blk_drew ?_ | refine blk_alloc ?_ _)); exact BK130.out) hg (Kd.R_ne HO_6.out BK130.out (by decide))); have n2_ := Aside0.mk (hb); have n3_ := Aside0.mk (ho); clear BK123; clear BK130; clear HB; clear HO_6; have BK123 := n0_; have BK130 := n1_; have HB := n2_; have HO162 := n3_; clear n0_ n1_ n2_ n3_; clear ho hb hg hat; obtain ⟨Ao62, co62, eo62⟩ := Kd.R_slice HO162.out; subst eo62) | ((with_reducible refine gate_callee (f := 20) rfl ?_); refine goesL_ (some 49) rfl rfl Try.func20 (by kernel_rfl) rfl #[.slice Ao62 y160.length co62] rfl (by (try simp only [List.map_toArray, List.map_cons, List.map_nil]); first | done | rfl | (simp only [List.length_drop, List.length_take]; rfl)) ?_; (with_reducible refine (vlq_PutAll.calls kj4 _ _ y160 t163 t164 _ ?side1 ?side2 A56.out).mono ?_); (case side1 => repeat (first | exact (Kd.R_reads' HO162.out).2.2 | (with_reducible refine Kd.C_alloc ?_ _) | (with_reducible refine Kd.C_drewN ?_ _) | (with_reducible refine Kd.C_drew ?_))); (case side2 => exact (Kd.R_reads' HO162.out).2.1); rintro e w63 ⟨v165, rfl, ho0, hb⟩; refine ⟨_, rfl, ?_⟩; have n0_ := Aside0.mk (Kd.R_below (by (with_reducible repeat (first | apply Kd.R_alloc | apply Kd.R_drewN | apply Kd.R_drew)); exact HO162.out) hb); have n1_ := Aside0.mk (Kd.R_lower ho0 (below_size (by repeat (first | (with_reducible first | exact HB.out | apply below_alloc | apply pw_below_drewN | apply below_drew1 | refine below_set ?_ GE123.out | refine below_set ?_ GE130.out) | exact HB.out)))); have n2_ := Aside0.mk (blk_below (g := gb123) (o := .cells #[.int .i64 a0_0, .int .i64 a0_1, .int .i64 a0_2, .int .i64 a0_3, .int .i64 a0_4, .string a0_5] 23 (0, 0)) (by (with_reducible repeat (first | refine blk_drewN ?_ _ | refine blk_drew ?_ | refine blk_alloc ?_ _)); exact BK123.out) hb); have n3_ := Aside0.mk (blk_below (g := gb130) (o := .cells #[.bool t125, .bool false, .bool true, .bool t128] 36 (0, 0)) (by (with_reducible repeat (first | refine blk_drewN ?_ _ | refine blk_drew ?_ | refine blk_alloc ?_ _)); exact BK130.out) hb); have n4_ := Aside0.mk (below_step (by repeat (first | (with_reducible first | exact HB.out | apply below_alloc | apply pw_below_drewN | apply below_drew1 | refine below_set ?_ GE123.out | refine below_set ?_ GE130.out) | exact HB.out)) hb); clear HO162; clear BK123; clear BK130; clear HB; have HO162 := n0_; have HO166 := n1_; have BK123 := n2_; have BK130 := n3_; have HB := n4_; clear n0_ n1_ n2_ n3_ n4_; (try clear hb); (try clear hb2); (try clear hk); (try clear hi); (try clear ho0); have hcz64_0 : w63.cell? ⟨gb123, 0, none⟩ = some (.int .i64 a0_0) := (blk_cell BK123.out 0).trans rfl; have hcz64_1 : w63.cell? ⟨gb123, 1, none⟩ = some (.int .i64 a0_1) := (blk_cell BK123.out 1).trans rfl; have hcz64_2 : w63.cell? ⟨gb123, 2, none⟩ = some (.int .i64 a0_2) := (blk_cell BK123.out 2).trans rfl; have hcz64_3 : w63.cell? ⟨gb123, 3, none⟩ = some (.int .i64 a0_3) := (blk_cell BK123.out 3).trans rfl; have hcz64_4 : w63.cell? ⟨gb123, 4, none⟩ = some (.int .i64 a0_4) := (blk_cell BK123.out 4).trans rfl; have hcz64_5 : w63.cell? ⟨gb123, 5, none⟩ = some (.string a0_5) := (blk_cell BK123.out 5).trans rfl; have hfz64_0 := blk_frozen BK123.out 0; have hfz64_1 := blk_frozen BK123.out 1; have hfz64_2 := blk_frozen BK123.out 2; have hfz64_3 := blk_frozen BK123.out 3; have hfz64_4 := blk_frozen BK123.out 4; have hfz64_5 := blk_frozen BK123.out 5) | (at_builtin; refine print_append_str (w0 := w) w.heap.size rfl (.tmp 52) _ 26 9 5 rfl Try.underlying26 Try.underlying9 info5 v165 t163 a0_5 rfl rfl ?aO ?aB ?aS ?aL ?_; (case aB => exact (by repeat (first | (with_reducible first | exact HB.out | apply below_alloc | apply pw_below_drewN | apply below_drew1 | refine below_set ?_ GE123.out | refine below_set ?_ GE130.out) | exact HB.out))); (case aO => exact (Kd.own_of_R (by (with_reducible repeat (first | apply Kd.R_alloc | apply Kd.R_drewN | apply Kd.R_drew)); exact HO166.out))); (case aS => exact (below_size (by repeat (first | (with_reducible first | exact HB.out | apply below_alloc | apply pw_below_drewN | apply below_drew1 | refine below_set ?_ GE123.out | refine below_set ?_ GE130.out) | exact HB.out)))); (case aL => have := LMc57.out; omega); intro v168 w65 ho0 hb hg; have ho := Kd.R_of_own (h1 := fun _ => rfl) (ok := fun _ => True) ho0 (fun _ _ => trivial); clear ho0; have hat := True.intro; rw [← Ny167.out] at ho; change Kd.R (Kd.int .u8) 5 w65 w.heap.size (fun _ => True) v168 y167 at ho; have n0_ := Aside0.mk (blk_grown (g := gb123) (o := .cells #[.int .i64 a0_0, .int .i64 a0_1, .int .i64 a0_2, .int .i64 a0_3, .int .i64 a0_4, .string a0_5] 23 (0, 0)) (by (with_reducible repeat (first | refine blk_drewN ?_ _ | refine blk_drew ?_ | refine blk_alloc ?_ _)); exact BK123.out) hg (Kd.R_ne HO166.out BK123.out (by decide))); have n1_ := Aside0.mk (blk_grown (g := gb130) (o := .cells #[.bool t125, .bool false, .bool true, .bool t128] 36 (0, 0)) (by (with_reducible repeat (first | refine blk_drewN ?_ _ | refine blk_drew ?_ | refine blk_alloc ?_ _)); exact BK130.out) hg (Kd.R_ne HO166.out BK130.out (by decide))); have n2_ := Aside0.mk (Kd.R_over' (by (with_reducible repeat (first | apply Kd.R_alloc | apply Kd.R_drewN | apply Kd.R_drew)); exact HO162.out) (Kd.R_typed (by (with_reducible repeat (first | apply Kd.R_alloc | apply Kd.R_drewN | apply Kd.R_drew)); exact HO166.out)) (by decide) hg); have n3_ := Aside0.mk (hb); have n4_ := Aside0.mk (ho); clear BK123; clear BK130; clear HO162; clear HB; clear HO166; have BK123 := n0_; have BK130 := n1_; have HO162 := n2_; have HB := n3_; have HO169 := n4_; clear n0_ n1_ n2_ n3_ n4_; clear ho hb hg hat))
                go_ret2
                exact ⟨_, by first | rfl | (simp [errW_none, errW_some] <;> rfl) | (simp [*, errW_none, errW_some] <;> rfl), by (with_reducible repeat (first | apply Kd.R_alloc | apply Kd.R_drewN | apply Kd.R_drew)); exact HO169.out, by repeat (first | (with_reducible first | exact HB.out | apply below_alloc | apply pw_below_drewN | apply below_drew1 | refine below_set ?_ GE123.out | refine below_set ?_ GE130.out) | exact HB.out)⟩
              · rw [if_neg c57] at H
                exact absurd H (by simp)
            · rw [if_neg c55] at H
              exact absurd H (by simp)
          · replace c54 := Bool.eq_false_iff.mpr c54
            subst c54
            have H1 : ((vlq_PutAll.f kj4 x6_4).bind fun bt170 => (if bt170.1.length + a0_5.size < 140737488355328 then (some ((bt170.1 ++ bytesOf a0_5), 0)) else (none))) = some (r1, r2) := by rw [if_neg (show ¬ (false = true) by decide)] at H; exact H
            clear H
            have H := H1
            clear H1
            replace H := Option.bind_eq_some_iff.mp H
            obtain ⟨⟨t170, t171⟩, A660, H⟩ := H
            replace H : (if t170.length + a0_5.size < 140737488355328 then (some ((t170 ++ bytesOf a0_5), 0)) else (none)) = some (r1, r2) := H
            have A66 := Aside0.mk A660
            clear A660
            by_cases c67 : t170.length + a0_5.size < 140737488355328
            · rw [if_pos c67] at H
              have LMc67 := Aside0.mk c67
              clear c67
              obtain ⟨y174, hy174⟩ : ∃ y_ : List Int, y_ = (t170 ++ bytesOf a0_5) := ⟨_, rfl⟩
              replace H : (some (y174, 0)) = some (r1, r2) := by first | (rw [hy174]; with_reducible exact H) | (have H2_ := (Option.bind_some _ _).symm.trans H; rw [hy174]; with_reducible exact H2_) | (have H2_ := (Option.bind_some _ _).symm.trans H; with_reducible exact H2_) | with_reducible exact H | (rw [hy174]; exact H) | exact H
              have Ny174 := Aside0.mk hy174
              clear hy174
              simp only [Option.some.injEq, Prod.mk.injEq] at H
              obtain ⟨rfl, rfl⟩ := H
              have hnb68 := NB130_123.out
              have hnc68 := NB123_130.out
              have hcz69_0 : wc.cell? ⟨gb130, 0, none⟩ = some (.bool t125) := (blk_cell BK130.out 0).trans rfl
              have hcz69_1 : wc.cell? ⟨gb130, 1, none⟩ = some (.bool false) := (blk_cell BK130.out 1).trans rfl
              have hcz69_2 : wc.cell? ⟨gb130, 2, none⟩ = some (.bool false) := (blk_cell BK130.out 2).trans rfl
              have hcz69_3 : wc.cell? ⟨gb130, 3, none⟩ = some (.bool t128) := (blk_cell BK130.out 3).trans rfl
              have hfz69_0 := blk_frozen BK130.out 0
              have hfz69_1 := blk_frozen BK130.out 1
              have hfz69_2 := blk_frozen BK130.out 2
              have hfz69_3 := blk_frozen BK130.out 3
              obtain ⟨Ao70, co70, eo70⟩ := Kd.R_slice HO_6.out
              subst eo70
              go_wp2_with (first | ((with_reducible refine gate_callee (f := 20) rfl ?_); refine goesL_ (some 49) rfl rfl Try.func20 (by kernel_rfl) rfl #[.slice Ao70 x6_4.length co70] rfl (by (try simp only [List.map_toArray, List.map_cons, List.map_nil]); first | done | rfl | (simp only [List.length_drop, List.length_take]; rfl)) ?_; (with_reducible refine (vlq_PutAll.calls kj4 _ _ x6_4 t170 t171 _ ?side1 ?side2 A66.out).mono ?_); (case side1 => repeat (first | exact (Kd.R_reads' HO_6.out).2.2 | (with_reducible refine Kd.C_alloc ?_ _) | (with_reducible refine Kd.C_drewN ?_ _) | (with_reducible refine Kd.C_drew ?_))); (case side2 => exact (Kd.R_reads' HO_6.out).2.1); rintro e w71 ⟨v172, rfl, ho0, hb⟩; refine ⟨_, rfl, ?_⟩; have n0_ := Aside0.mk (Kd.R_below (by (with_reducible repeat (first | apply Kd.R_alloc | apply Kd.R_drewN | apply Kd.R_drew)); exact HO_6.out) hb); have n1_ := Aside0.mk (Kd.R_lower ho0 (below_size (by repeat (first | (with_reducible first | exact HB.out | apply below_alloc | apply pw_below_drewN | apply below_drew1 | refine below_set ?_ GE123.out | refine below_set ?_ GE130.out) | exact HB.out)))); have n2_ := Aside0.mk (blk_below (g := gb123) (o := .cells #[.int .i64 a0_0, .int .i64 a0_1, .int .i64 a0_2, .int .i64 a0_3, .int .i64 a0_4, .string a0_5] 23 (0, 0)) (by (with_reducible repeat (first | refine blk_drewN ?_ _ | refine blk_drew ?_ | refine blk_alloc ?_ _)); exact BK123.out) hb); have n3_ := Aside0.mk (blk_below (g := gb130) (o := .cells #[.bool t125, .bool false, .bool false, .bool t128] 36 (0, 0)) (by (with_reducible repeat (first | refine blk_drewN ?_ _ | refine blk_drew ?_ | refine blk_alloc ?_ _)); exact BK130.out) hb); have n4_ := Aside0.mk (below_step (by repeat (first | (with_reducible first | exact HB.out | apply below_alloc | apply pw_below_drewN | apply below_drew1 | refine below_set ?_ GE123.out | refine below_set ?_ GE130.out) | exact HB.out)) hb); clear HO_6; clear BK123; clear BK130; clear HB; have HO_6 := n0_; have HO173 := n1_; have BK123 := n2_; have BK130 := n3_; have HB := n4_; clear n0_ n1_ n2_ n3_ n4_; (try clear hb); (try clear hb2); (try clear hk); (try clear hi); (try clear ho0); have hcz72_0 : w71.cell? ⟨gb123, 0, none⟩ = some (.int .i64 a0_0) := (blk_cell BK123.out 0).trans rfl; have hcz72_1 : w71.cell? ⟨gb123, 1, none⟩ = some (.int .i64 a0_1) := (blk_cell BK123.out 1).trans rfl; have hcz72_2 : w71.cell? ⟨gb123, 2, none⟩ = some (.int .i64 a0_2) := (blk_cell BK123.out 2).trans rfl; have hcz72_3 : w71.cell? ⟨gb123, 3, none⟩ = some (.int .i64 a0_3) := (blk_cell BK123.out 3).trans rfl; have hcz72_4 : w71.cell? ⟨gb123, 4, none⟩ = some (.int .i64 a0_4) := (blk_cell BK123.out 4).trans rfl; have hcz72_5 : w71.cell? ⟨gb123, 5, none⟩ = some (.string a0_5) := (blk_cell BK123.out 5).trans rfl; have hfz72_0 := blk_frozen BK123.out 0; have hfz72_1 := blk_frozen BK123.out 1; have hfz72_2 := blk_frozen BK123.out 2; have hfz72_3 := blk_frozen BK123.out 3; have hfz72_4 := blk_frozen BK123.out 4; have hfz72_5 := blk_frozen BK123.out 5) | (at_builtin; refine print_append_str (w0 := w) w.heap.size rfl (.tmp 52) _ 26 9 5 rfl Try.underlying26 Try.underlying9 info5 v172 t170 a0_5 rfl rfl ?aO ?aB ?aS ?aL ?_; (case aB => exact (by repeat (first | (with_reducible first | exact HB.out | apply below_alloc | apply pw_below_drewN | apply below_drew1 | refine below_set ?_ GE123.out | refine below_set ?_ GE130.out) | exact HB.out))); (case aO => exact (Kd.own_of_R (by (with_reducible repeat (first | apply Kd.R_alloc | apply Kd.R_drewN | apply Kd.R_drew)); exact HO173.out))); (case aS => exact (below_size (by repeat (first | (with_reducible first | exact HB.out | apply below_alloc | apply pw_below_drewN | apply below_drew1 | refine below_set ?_ GE123.out | refine below_set ?_ GE130.out) | exact HB.out)))); (case aL => have := LMc67.out; omega); intro v175 w73 ho0 hb hg; have ho := Kd.R_of_own (h1 := fun _ => rfl) (ok := fun _ => True) ho0 (fun _ _ => trivial); clear ho0; have hat := True.intro; rw [← Ny174.out] at ho; change Kd.R (Kd.int .u8) 5 w73 w.heap.size (fun _ => True) v175 y174 at ho; have n0_ := Aside0.mk (Kd.R_over' (by (with_reducible repeat (first | apply Kd.R_alloc | apply Kd.R_drewN | apply Kd.R_drew)); exact HO_6.out) (Kd.R_typed (by (with_reducible repeat (first | apply Kd.R_alloc | apply Kd.R_drewN | apply Kd.R_drew)); exact HO173.out)) (by decide) hg); have n1_ := Aside0.mk (blk_grown (g := gb123) (o := .cells #[.int .i64 a0_0, .int .i64 a0_1, .int .i64 a0_2, .int .i64 a0_3, .int .i64 a0_4, .string a0_5] 23 (0, 0)) (by (with_reducible repeat (first | refine blk_drewN ?_ _ | refine blk_drew ?_ | refine blk_alloc ?_ _)); exact BK123.out) hg (Kd.R_ne HO173.out BK123.out (by decide))); have n2_ := Aside0.mk (blk_grown (g := gb130) (o := .cells #[.bool t125, .bool false, .bool false, .bool t128] 36 (0, 0)) (by (with_reducible repeat (first | refine blk_drewN ?_ _ | refine blk_drew ?_ | refine blk_alloc ?_ _)); exact BK130.out) hg (Kd.R_ne HO173.out BK130.out (by decide))); have n3_ := Aside0.mk (hb); have n4_ := Aside0.mk (ho); clear HO_6; clear BK123; clear BK130; clear HB; clear HO173; have HO_6 := n0_; have BK123 := n1_; have BK130 := n2_; have HB := n3_; have HO176 := n4_; clear n0_ n1_ n2_ n3_ n4_; clear ho hb hg hat))
              go_ret2
              exact ⟨_, by first | rfl | (simp [errW_none, errW_some] <;> rfl) | (simp [*, errW_none, errW_some] <;> rfl), by (with_reducible repeat (first | apply Kd.R_alloc | apply Kd.R_drewN | apply Kd.R_drew)); exact HO176.out, by repeat (first | (with_reducible first | exact HB.out | apply below_alloc | apply pw_below_drewN | apply below_drew1 | refine below_set ?_ GE123.out | refine below_set ?_ GE130.out) | exact HB.out)⟩
            · rw [if_neg c67] at H
              exact absurd H (by simp)
  · replace c3 := Bool.eq_false_iff.mpr c3
    subst c3
    have H1 : (some (([] : List Int), 1)) = some (r1, r2) := by rw [if_neg (show ¬ (false = true) by decide)] at H; exact H
    clear H
    have H := H1
    clear H1
    simp only [Option.some.injEq, Prod.mk.injEq] at H
    obtain ⟨rfl, rfl⟩ := H
    go_enter Try.func11, Try.ntmps11
    go_wp2_with (first | ((with_reducible refine gate_dst (N := 1) rfl ?_); refine box_event ?hg (N := 1) ?hd (cs := #[.int .i64 a0_0, .int .i64 a0_1, .int .i64 a0_2, .int .i64 a0_3, .int .i64 a0_4, .string a0_5]) (t := 23) ?hr ?_; (case hd => rfl); (case hg => rfl); (case hr => first | (go_simp; done) | (go_simp; rfl)); intro gb123 hg w74 hbox hb; have n0_ := Aside0.mk (below_step (by repeat (first | (with_reducible first | exact HB.out | apply below_alloc | apply pw_below_drewN | apply below_drew1) | exact HB.out)) hb); have n1_ := Aside0.mk (hbox); have n2_ := Aside0.mk ((by rw [hg]; exact (below_size (by repeat (first | (with_reducible first | exact HB.out | apply below_alloc | apply pw_below_drewN | apply below_drew1) | exact HB.out))) : w.heap.size ≤ gb123)); have n3_ := Aside0.mk ((by rw [hg]; exact (below_size (by repeat (first | (with_reducible first | exact HB.out | apply below_alloc | apply pw_below_drewN | apply below_drew1) | exact HB.out))) : w.heap.size ≤ gb123)); clear HB; have HB := n0_; have BK123 := n1_; have GW123 := n2_; have GE123 := n3_; clear n0_ n1_ n2_ n3_; clear hb hbox hg; have hcz75_0 : w74.cell? ⟨gb123, 0, none⟩ = some (.int .i64 a0_0) := (blk_cell BK123.out 0).trans rfl; have hcz75_1 : w74.cell? ⟨gb123, 1, none⟩ = some (.int .i64 a0_1) := (blk_cell BK123.out 1).trans rfl; have hcz75_2 : w74.cell? ⟨gb123, 2, none⟩ = some (.int .i64 a0_2) := (blk_cell BK123.out 2).trans rfl; have hcz75_3 : w74.cell? ⟨gb123, 3, none⟩ = some (.int .i64 a0_3) := (blk_cell BK123.out 3).trans rfl; have hcz75_4 : w74.cell? ⟨gb123, 4, none⟩ = some (.int .i64 a0_4) := (blk_cell BK123.out 4).trans rfl; have hcz75_5 : w74.cell? ⟨gb123, 5, none⟩ = some (.string a0_5) := (blk_cell BK123.out 5).trans rfl; have hfz75_0 := blk_frozen BK123.out 0; have hfz75_1 := blk_frozen BK123.out 1; have hfz75_2 := blk_frozen BK123.out 2; have hfz75_3 := blk_frozen BK123.out 3; have hfz75_4 := blk_frozen BK123.out 4; have hfz75_5 := blk_frozen BK123.out 5) | ((with_reducible refine gate_callee (f := 10) rfl ?_); refine goesL_ (some 10) rfl rfl Try.func10 (by kernel_rfl) rfl #[.agg #[.int .i64 a0_0, .int .i64 a0_1, .int .i64 a0_2, .int .i64 a0_3, .int .i64 a0_4, .string a0_5]] rfl (by (try simp only [List.map_toArray, List.map_cons, List.map_nil]); first | done | rfl | (simp only [List.length_drop, List.length_take]; rfl)) ?_; (with_reducible refine (command_May.calls a0_0 a0_1 a0_2 a0_3 a0_4 a0_5 false _ A2.out).mono ?_); rintro e w76 ⟨rfl, hb⟩; refine ⟨_, rfl, ?_⟩; have n0_ := Aside0.mk (blk_below (g := gb123) (o := .cells #[.int .i64 a0_0, .int .i64 a0_1, .int .i64 a0_2, .int .i64 a0_3, .int .i64 a0_4, .string a0_5] 23 (0, 0)) (by (with_reducible repeat (first | refine blk_drewN ?_ _ | refine blk_drew ?_ | refine blk_alloc ?_ _)); exact BK123.out) hb); have n1_ := Aside0.mk (below_step (by repeat (first | (with_reducible first | exact HB.out | apply below_alloc | apply pw_below_drewN | apply below_drew1 | refine below_set ?_ GE123.out) | exact HB.out)) hb); clear BK123; clear HB; have BK123 := n0_; have HB := n1_; clear n0_ n1_; (try clear hb); (try clear hb2); (try clear hk); (try clear hi)))
    go_ret2
    exact ⟨_, by first | rfl | (simp [errW_none, errW_some] <;> rfl) | (simp [*, errW_none, errW_some] <;> rfl), by first | exact Kd.R_nil _ _ _ _ _ | exact Kd.N_nil _ _ _ _ _ | exact Kd.V_nil _ _ _ _ _ | exact Kd.Q_nil _ _ _ _ _ | exact Kd.S_nil _ _ _ _ _, by repeat (first | (with_reducible first | exact HB.out | apply below_alloc | apply pw_below_drewN | apply below_drew1 | refine below_set ?_ GE123.out) | exact HB.out)⟩

/-! ### colloquylaw04_awake: function 9 -/
def colloquylaw04_awake.f (k : Nat)  : Option (Bool) := (command_Put.f k 7 1 4 3 0 (⟨#[104, 105]⟩ : ByteArray)).bind fun bt177 => (if bt177.2 = 0 then (some ((strOfNums bt177.1).toList == ([4, 7, 1, 3, 2, 104, 105] : List UInt8))) else (some false))
theorem colloquylaw04_awake.mono : ∀ k, LeO (colloquylaw04_awake.f k ) (colloquylaw04_awake.f (k + 1) ) := by
  intro  k
  unfold colloquylaw04_awake.f
  repeat' first
      | (with_reducible exact command_Put.mono _ _ _ _ _ _ _)
      | (with_reducible exact LeO.refl _)
      | (with_reducible exact LeO.none _)
      | (with_reducible refine LeO.ite ?_ ?_)
      | (with_reducible refine LeO.bind ?_ (fun _ => ?_))
      | exact command_Put.mono _ _ _ _ _ _ _
      | exact LeO.none _
      | refine LeO.ite ?_ ?_
      | refine LeO.bind ?_ (fun _ => ?_)
set_option maxHeartbeats 8000000 in
set_option maxRecDepth 100000 in
theorem colloquylaw04_awake.calls (k : Nat)  (r : Bool) (w : World) (h : colloquylaw04_awake.f k  = some r) :
    Calls Try.prog 9 #[] w fun e w' => e = .returned (.bool r) ∧ Below w.heap.size w w' := by
  have hu23 := Try.underlying23
  have HB := Aside0.mk (Below.refl w.heap.size w)
  have H : ((command_Put.f k 7 1 4 3 0 (⟨#[104, 105]⟩ : ByteArray)).bind fun bt177 => (if bt177.2 = 0 then (some ((strOfNums bt177.1).toList == ([4, 7, 1, 3, 2, 104, 105] : List UInt8))) else (some false))) = some r := h
  clear h
  replace H := Option.bind_eq_some_iff.mp H
  obtain ⟨⟨t177, t180⟩, A10, H⟩ := H
  replace H : (if t180 = 0 then (some ((strOfNums t177).toList == ([4, 7, 1, 3, 2, 104, 105] : List UInt8))) else (some false)) = some r := H
  have A1 := Aside0.mk A10
  clear A10
  by_cases c2 : t180 = 0
  · rw [if_pos c2] at H
    have c2b0 : (t180 == 0) = true := beq_iff_eq.mpr c2
    have c2b1 : (t180 != 0) = false := bne_eq_false_iff_eq.mpr c2
    clear c2
    obtain rfl := Option.some.inj H
    go_enter Try.func9, Try.ntmps9
    go_wp2_with (first | ((with_reducible refine gate_callee (f := 11) rfl ?_); refine goesL_ (some 5) rfl rfl Try.func11 (by kernel_rfl) rfl #[.agg #[.int .i64 7, .int .i64 1, .int .i64 4, .int .i64 3, .int .i64 0, .string (⟨#[104, 105]⟩ : ByteArray)]] rfl (by (try simp only [List.map_toArray, List.map_cons, List.map_nil]); first | done | rfl | (simp only [List.length_drop, List.length_take]; rfl)) ?_; (with_reducible refine (command_Put.calls k 7 1 4 3 0 (⟨#[104, 105]⟩ : ByteArray) t177 t180 _ A1.out).mono ?_); rintro e w3 ⟨v178, rfl, ho0, hb⟩; refine ⟨_, rfl, ?_⟩; have n0_ := Aside0.mk (Kd.R_lower ho0 (below_size (by repeat (first | (with_reducible first | exact HB.out | apply below_alloc | apply pw_below_drewN | apply below_drew1) | exact HB.out)))); have n1_ := Aside0.mk (below_step (by repeat (first | (with_reducible first | exact HB.out | apply below_alloc | apply pw_below_drewN | apply below_drew1) | exact HB.out)) hb); clear HB; have HO179 := n0_; have HB := n1_; clear n0_ n1_; (try clear hb); (try clear hb2); (try clear hk); (try clear hi); (try clear ho0); have hcv4 := own_string (P := Try.prog) Try.underlying26 Try.underlying5 Try.underlying9 (Kd.own_of_R HO179.out); (try have hcvq5 := fun nq_ => own_string (P := Try.prog) Try.underlying26 Try.underlying5 Try.underlying9 (Kd.own_of_R (Kd.R_drewN HO179.out nq_)))))
    go_ret
    exact ⟨by first | rfl | (simp [errW_none, errW_some] <;> rfl) | (simp [*, errW_none, errW_some] <;> rfl), by repeat (first | (with_reducible first | exact HB.out | apply below_alloc | apply pw_below_drewN | apply below_drew1) | exact HB.out)⟩
  · rw [if_neg c2] at H
    have c2b0 : (t180 == 0) = false := beq_eq_false_iff_ne.mpr c2
    have c2b1 : (t180 != 0) = true := bne_iff_ne.mpr c2
    obtain rfl := Option.some.inj H
    go_enter Try.func9, Try.ntmps9
    go_wp2_with (first | ((with_reducible refine gate_callee (f := 11) rfl ?_); refine goesL_ (some 5) rfl rfl Try.func11 (by kernel_rfl) rfl #[.agg #[.int .i64 7, .int .i64 1, .int .i64 4, .int .i64 3, .int .i64 0, .string (⟨#[104, 105]⟩ : ByteArray)]] rfl (by (try simp only [List.map_toArray, List.map_cons, List.map_nil]); first | done | rfl | (simp only [List.length_drop, List.length_take]; rfl)) ?_; (with_reducible refine (command_Put.calls k 7 1 4 3 0 (⟨#[104, 105]⟩ : ByteArray) t177 t180 _ A1.out).mono ?_); rintro e w6 ⟨v178, rfl, ho0, hb⟩; refine ⟨_, rfl, ?_⟩; have n0_ := Aside0.mk (Kd.R_lower ho0 (below_size (by repeat (first | (with_reducible first | exact HB.out | apply below_alloc | apply pw_below_drewN | apply below_drew1) | exact HB.out)))); have n1_ := Aside0.mk (below_step (by repeat (first | (with_reducible first | exact HB.out | apply below_alloc | apply pw_below_drewN | apply below_drew1) | exact HB.out)) hb); clear HB; have HO179 := n0_; have HB := n1_; clear n0_ n1_; (try clear hb); (try clear hb2); (try clear hk); (try clear hi); (try clear ho0)))
    go_ret
    exact ⟨by first | rfl | (simp [errW_none, errW_some] <;> rfl) | (simp [*, errW_none, errW_some] <;> rfl), by repeat (first | (with_reducible first | exact HB.out | apply below_alloc | apply pw_below_drewN | apply below_drew1) | exact HB.out)⟩

/-! ### vlq_Get: function 31 -/
def vlq_Get.l0 : Nat → List Int → Int → Int → Option (Int × Int × Int)
  | 0, _, _, _ => none
  | k + 1, b, n, i => if i = (b.length : Int) then (some (0, 0, 3)) else (if 0 ≤ i then (if i < (b.length : Int) then (if i = 0 ∧ rd b i = 128 then (some (0, 0, 2)) else (if i = 7 ∧ rd b i ≥ 128 then (some (0, 0, 2)) else (if rd b i < 128 then (some (Go.bits .or .i64 (wrap64 (n * 128)) (wrap64 (Go.bits .and .u8 (rd b i) 127)), wrap64 (i + 1), 0)) else (vlq_Get.l0 k b (Go.bits .or .i64 (wrap64 (n * 128)) (wrap64 (Go.bits .and .u8 (rd b i) 127))) (wrap64 (i + 1)))))) else none) else none)
def vlq_Get.f (k : Nat) (l0 : List Int) : Option (Int × Int × Int) := vlq_Get.l0 k l0 0 0
theorem vlq_Get.mono_l : ∀ k b n i, LeO (vlq_Get.l0 k b n i) (vlq_Get.l0 (k + 1) b n i)
  | 0 => fun _ _ _ r h => by simp [vlq_Get.l0] at h
  | k + 1 => fun b n i => by
    unfold vlq_Get.l0
    exact LeO.ite (LeO.refl _) (LeO.ite (LeO.ite (LeO.ite (LeO.refl _) (LeO.ite (LeO.refl _) (LeO.ite (LeO.refl _) (vlq_Get.mono_l k _ _ _)))) (LeO.refl _)) (LeO.refl _))
theorem vlq_Get.mono : ∀ a0 k, LeO (vlq_Get.f k a0) (vlq_Get.f (k + 1) a0) := fun a0 k => vlq_Get.mono_l k a0 0 0
set_option maxHeartbeats 1000000 in
set_option maxRecDepth 100000 in
theorem vlq_Get.drawn (k : Nat) (A0 : Option Addr) (c0 : Nat) (l0 : List Int) (r1 r2 r3 : Int) (w : World) (hr0 : Kd.C (Kd.int .u8) w A0 l0.length l0) (hc0 : l0.length ≤ c0) (h : vlq_Get.f k l0 = some (r1, r2, r3)) :
    Calls Try.prog 31 #[.slice A0 l0.length c0] w fun e w' => e = .returned (.tuple #[.int .i64 r1, .int .i64 r2, .int .i64 r3]) ∧ Drawn0 w w' := by
  have HR0 := Aside0.mk hr0
  have HC0 := Aside0.mk hc0
  clear hr0 hc0
  have H : vlq_Get.l0 k l0 0 0 = some (r1, r2, r3) := h
  clear h
  have H' := Aside0.mk H
  clear H
  go_enter Try.func31, Try.ntmps31
  go_wp2
  go_step3
  go_wp2
  go_step3
  go_wp2
  go_loopg [5, 6] k (fun kq v5 v6 w' => ∃ (n i : Int), v5 = .int .i64 n ∧ v6 = .int .i64 i ∧ Aside0 (vlq_Get.l0 kq l0 n i = some (r1, r2, r3)) ∧ Aside0 (kq ≤ k) ∧ Aside0 (-1 < i) ∧ Drawn0 w w')
  case atStart => exact ⟨0, 0, rfl, rfl, H', ⟨Nat.le_refl _⟩, ⟨by decide⟩, Drawn0.refl _⟩
  case round =>
    obtain ⟨n, i, rfl, rfl, HA, HK1, HI, ⟨m1, rfl⟩⟩ := hrel
    clear H'
    cases gk with
    | zero => exact absurd HA.out (by simp [vlq_Get.l0])
    | succ k1 =>
      have H := HA.out
      clear HA
      simp only [vlq_Get.l0] at H
      by_cases c1 : i = (l0.length : Int)
      · rw [if_pos c1] at H
        simp only [Option.some.injEq, Prod.mk.injEq] at H
        obtain ⟨rfl, rfl, rfl⟩ := H
        have c1b : (i == (l0.length : Int)) = true := beq_iff_eq.mpr c1
        clear c1
        go_wp2
        rw [Exit.noGoto_ret]
        go_ret3
        exact ⟨rfl, by repeat (first | exact Drawn0.refl _ | apply Drawn0.step)⟩
      · rw [if_neg c1] at H
        have hc1b : (i == (l0.length : Int)) = false := beq_eq_false_iff_ne.mpr c1
        have c2 : 0 ≤ i := by have := HI.out; omega
        rw [if_pos c2] at H
        have c3 : i < (l0.length : Int) := by
          apply Classical.byContradiction
          intro c3
          rw [if_neg c3] at H
          cases H
        rw [if_pos c3] at H
        obtain ⟨ad, ea, hx⟩ := Kd.at_int HR0.out i c2 c3
        subst ea
        have hlen := HR0.out.2.1
        have HL := Aside0.mk hlen
        clear c1 hlen
        have d2 := Aside0.mk c2
        have d3 := Aside0.mk c3
        have e10 : Aside0 (wrap64 (i + 1) = i + 1) := ⟨by have := HL.out; unfold wrap64; omega⟩
        have e13 : wrap64 (wrap64 (i + 1) - 1) = i := by rw [e10.out]; have := HL.out; unfold wrap64; omega
        have qs : ((i == 0) = true ∧ (rd l0 i == 128) = true ∧ (0, 0, 2) = (r1, r2, r3)) ∨ (((i == 0) = false ∨ ((i == 0) = true ∧ (i == 7) = false ∧ (rd l0 i == 128) = false)) ∧
            (((i == 7) = true ∧ decide (rd l0 i ≥ 128) = true ∧ (0, 0, 2) = (r1, r2, r3)) ∨
              (((i == 7) = false ∨ ((i == 7) = true ∧ decide (rd l0 i ≥ 128) = false)) ∧
                ((decide (rd l0 i < 128) = true ∧ (Go.bits .or .i64 (wrap64 (n * 128)) (wrap64 (Go.bits .and .u8 (rd l0 i) 127)), wrap64 (i + 1), 0) = (r1, r2, r3)) ∨
                  (decide (rd l0 i < 128) = false ∧ vlq_Get.l0 k1 l0 (Go.bits .or .i64 (wrap64 (n * 128)) (wrap64 (Go.bits .and .u8 (rd l0 i) 127))) (wrap64 (i + 1)) = some (r1, r2, r3)))))) := by
          by_cases a1 : i = 0 ∧ rd l0 i = 128
          · rw [if_pos a1] at H
            exact .inl ⟨beq_iff_eq.mpr a1.1, beq_iff_eq.mpr a1.2, Option.some.inj H⟩
          · rw [if_neg a1] at H
            refine .inr ⟨?_, ?_⟩
            · by_cases z : i = 0
              · exact .inr ⟨beq_iff_eq.mpr z, beq_eq_false_iff_ne.mpr (by omega), beq_eq_false_iff_ne.mpr (fun y => a1 ⟨z, y⟩)⟩
              · exact .inl (beq_eq_false_iff_ne.mpr z)
            by_cases a2 : i = 7 ∧ rd l0 i ≥ 128
            · rw [if_pos a2] at H
              exact .inl ⟨beq_iff_eq.mpr a2.1, decide_eq_true a2.2, Option.some.inj H⟩
            · rw [if_neg a2] at H
              refine .inr ⟨?_, ?_⟩
              · by_cases z : i = 7
                · exact .inr ⟨beq_iff_eq.mpr z, decide_eq_false (fun y => a2 ⟨z, y⟩)⟩
                · exact .inl (beq_eq_false_iff_ne.mpr z)
              by_cases a3 : rd l0 i < 128
              · rw [if_pos a3] at H
                exact .inl ⟨decide_eq_true a3, Option.some.inj H⟩
              · rw [if_neg a3] at H
                exact .inr ⟨decide_eq_false a3, H⟩
        clear H
        replace c2 := eq_true c2
        replace c3 := eq_true c3
        rcases qs with ⟨q1, q2, q3⟩ | ⟨q1 | ⟨q1, qq, q2⟩, ⟨q3, q4, q5⟩ | ⟨q3 | ⟨q3, q4⟩, ⟨q5, q6⟩ | ⟨q5, q6⟩⟩⟩
        · cases q3
          go_wp2
          rw [Exit.noGoto_ret]
          go_ret3
          exact ⟨rfl, by repeat (first | exact Drawn0.refl _ | apply Drawn0.step)⟩
        · cases q5
          go_wp2
          rw [Exit.noGoto_ret]
          go_ret3
          exact ⟨rfl, by repeat (first | exact Drawn0.refl _ | apply Drawn0.step)⟩
        · cases q6
          go_wp2
          rw [Exit.noGoto_ret]
          go_ret3
          exact ⟨rfl, by repeat (first | exact Drawn0.refl _ | apply Drawn0.step)⟩
        · have HQ := Aside0.mk q6
          clear q6
          go_wp2
          go_roundg k1
          case measure => have := HK1.out; omega
          case rel => exact ⟨_, _, rfl, rfl, HQ, ⟨by have := HK1.out; omega⟩, ⟨by have := HI.out; have := e10.out; omega⟩, by repeat (first | exact Drawn0.refl _ | apply Drawn0.step)⟩
        · cases q6
          go_wp2
          rw [Exit.noGoto_ret]
          go_ret3
          exact ⟨rfl, by repeat (first | exact Drawn0.refl _ | apply Drawn0.step)⟩
        · have HQ := Aside0.mk q6
          clear q6
          go_wp2
          go_roundg k1
          case measure => have := HK1.out; omega
          case rel => exact ⟨_, _, rfl, rfl, HQ, ⟨by have := HK1.out; omega⟩, ⟨by have := HI.out; have := e10.out; omega⟩, by repeat (first | exact Drawn0.refl _ | apply Drawn0.step)⟩
        · rw [qq] at q3; cases q3
        · cases q6
          go_wp2
          rw [Exit.noGoto_ret]
          go_ret3
          exact ⟨rfl, by repeat (first | exact Drawn0.refl _ | apply Drawn0.step)⟩
        · have HQ := Aside0.mk q6
          clear q6
          go_wp2
          go_roundg k1
          case measure => have := HK1.out; omega
          case rel => exact ⟨_, _, rfl, rfl, HQ, ⟨by have := HK1.out; omega⟩, ⟨by have := HI.out; have := e10.out; omega⟩, by repeat (first | exact Drawn0.refl _ | apply Drawn0.step)⟩
        · rw [qq] at q3; cases q3
        · rw [qq] at q3; cases q3
theorem vlq_Get.calls (k : Nat) (A0 : Option Addr) (c0 : Nat) (l0 : List Int) (r1 r2 r3 : Int) (w : World) (hr0 : Kd.C (Kd.int .u8) w A0 l0.length l0) (hc0 : l0.length ≤ c0) (h : vlq_Get.f k l0 = some (r1, r2, r3)) :
    Calls Try.prog 31 #[.slice A0 l0.length c0] w fun e w' => e = .returned (.tuple #[.int .i64 r1, .int .i64 r2, .int .i64 r3]) ∧ Below w.heap.size w w' := by
  refine (vlq_Get.drawn k A0 c0 l0 r1 r2 r3 w hr0 hc0 h).mono ?_
  rintro e w' ⟨he, n, rfl⟩
  exact ⟨he, pw_below_drewN (Below.refl _ _) n⟩

-- NOT PRINTED: function 25 (command_reader_number)

-- NOT PRINTED: function 26 (command_reader_text)

end Go.Proofs.Ythkipipfdlepnaa.PAll
