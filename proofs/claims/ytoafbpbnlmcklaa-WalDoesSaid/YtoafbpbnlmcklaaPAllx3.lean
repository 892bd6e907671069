/- The machine's side of this claim, written by a program of this session out of the translation: for each Go function a Lean function of its answers, and the proof that the code comes to just these. Conditions: those that each theorem states. -/
import Derived.Test.YtoafbpbnlmcklaaPAllx0
import Derived.Test.YtoafbpbnlmcklaaPAllx2
namespace Go.Proofs.Ytoafbpbnlmcklaa.PAll
open Go.RowKit Go.Proofs.YtoafbpbnlmcklaaW.PrintWords Go.Proofs.YtoafbpbnlmcklaaW.PrintLast Go.Proofs.YtoafbpbnlmcklaaW.PrintMore
attribute [local go_sem] max2_int min2_int max_two min_two max_three min_three max_four min_four   -- for this text's walks alone
set_option linter.unusedVariables false
set_option linter.unusedSimpArgs false

/-! ### colloquyref20_sectors: function 41 -/
mutual
def colloquyref20_sectors.l0 : Nat → List Int → List (List Int) → Option ((List (List Int)))
  | 0, _, _ => none
  | k + 1, x3, x5 => if (x3.length : Int) > 0 then (if (x3.length : Int) ≤ 15 then (colloquyref20_sectors.j1 k x3 x5 (x3.length : Int) 2) else (colloquyref20_sectors.j1 k x3 x5 15 1)) else (some x5)
def colloquyref20_sectors.j1 : Nat → List Int → List (List Int) → Int → Int → Option ((List (List Int)))
  | 0, _, _, _, _ => none
  | k + 1, x3, x5, x6, x7 => if 16 ≤ 281474976710656 then (colloquyref20_sectors.l1 k x3 x5 x6 x7 (List.replicate 16 0) 0) else (none)
def colloquyref20_sectors.l1 : Nat → List Int → List (List Int) → Int → Int → List Int → Int → Option ((List (List Int)))
  | 0, _, _, _, _, _, _ => none
  | k + 1, x3, x5, x6, x7, x8, x9 => if x9 < x6 then (if 0 ≤ x9 then (if x9 < (x3.length : Int) then (if x9 < (x8.length : Int) then (colloquyref20_sectors.l1 k x3 x5 x6 x7 (x8.set (x9 : Int).toNat (rd x3 x9)) (wrap64 (x9 + 1))) else (none)) else (none)) else (none)) else (if 15 < (x8.length : Int) then (if x5.length < 5864062014805 then (if 0 ≤ x6 then (if x6 ≤ (x3.length : Int) then (colloquyref20_sectors.l0 k (x3.drop (x6 : Int).toNat) (x5 ++ [(x8.set (15 : Int).toNat x7)])) else (none)) else (none)) else (none)) else (none))
end
def colloquyref20_sectors.f (k : Nat) (l0 : List Int) : Option ((List (List Int))) := (colloquyref01_Put.f k (l0.length : Int)).bind fun bt153 => (if bt153.1.length + l0.length < 140737488355328 then (colloquyref20_sectors.l0 k (bt153.1 ++ l0) ([] : List (List Int))) else (none))
theorem colloquyref20_sectors.mono_l : ∀ k, (∀ y0 y1, LeO (colloquyref20_sectors.l0 k y0 y1) (colloquyref20_sectors.l0 (k + 1) y0 y1)) ∧ (∀ y0 y1 y2 y3, LeO (colloquyref20_sectors.j1 k y0 y1 y2 y3) (colloquyref20_sectors.j1 (k + 1) y0 y1 y2 y3)) ∧ (∀ y0 y1 y2 y3 y4 y5, LeO (colloquyref20_sectors.l1 k y0 y1 y2 y3 y4 y5) (colloquyref20_sectors.l1 (k + 1) y0 y1 y2 y3 y4 y5))
  | 0 => ⟨fun _ _ r h => by simp [colloquyref20_sectors.l0] at h, fun _ _ _ _ r h => by simp [colloquyref20_sectors.j1] at h, fun _ _ _ _ _ _ r h => by simp [colloquyref20_sectors.l1] at h⟩
  | k + 1 => by
    obtain ⟨ih0, ih1, ih2⟩ := colloquyref20_sectors.mono_l k
    refine ⟨?_, ?_, ?_⟩
    · intro y0 y1
      unfold colloquyref20_sectors.l0
      repeat' first
      | (with_reducible exact ih0 _ _)
      | (with_reducible exact ih1 _ _ _ _)
      | (with_reducible exact ih2 _ _ _ _ _ _)
      | (with_reducible exact colloquyref01_Put.mono _ _)
      | (with_reducible exact LeO.refl _)
      | (with_reducible exact LeO.none _)
      | (with_reducible refine LeO.ite ?_ ?_)
      | (with_reducible refine LeO.bind ?_ (fun _ => ?_))
      | exact ih0 _ _
      | exact ih1 _ _ _ _
      | exact ih2 _ _ _ _ _ _
      | exact colloquyref01_Put.mono _ _
      | exact LeO.none _
      | refine LeO.ite ?_ ?_
      | refine LeO.bind ?_ (fun _ => ?_)
    · intro y0 y1 y2 y3
      unfold colloquyref20_sectors.j1
      repeat' first
      | (with_reducible exact ih0 _ _)
      | (with_reducible exact ih1 _ _ _ _)
      | (with_reducible exact ih2 _ _ _ _ _ _)
      | (with_reducible exact colloquyref01_Put.mono _ _)
      | (with_reducible exact LeO.refl _)
      | (with_reducible exact LeO.none _)
      | (with_reducible refine LeO.ite ?_ ?_)
      | (with_reducible refine LeO.bind ?_ (fun _ => ?_))
      | exact ih0 _ _
      | exact ih1 _ _ _ _
      | exact ih2 _ _ _ _ _ _
      | exact colloquyref01_Put.mono _ _
      | exact LeO.none _
      | refine LeO.ite ?_ ?_
      | refine LeO.bind ?_ (fun _ => ?_)
    · intro y0 y1 y2 y3 y4 y5
      unfold colloquyref20_sectors.l1
      repeat' first
      | (with_reducible exact ih0 _ _)
      | (with_reducible exact ih1 _ _ _ _)
      | (with_reducible exact ih2 _ _ _ _ _ _)
      | (with_reducible exact colloquyref01_Put.mono _ _)
      | (with_reducible exact LeO.refl _)
      | (with_reducible exact LeO.none _)
      | (with_reducible refine LeO.ite ?_ ?_)
      | (with_reducible refine LeO.bind ?_ (fun _ => ?_))
      | exact ih0 _ _
      | exact ih1 _ _ _ _
      | exact ih2 _ _ _ _ _ _
      | exact colloquyref01_Put.mono _ _
      | exact LeO.none _
      | refine LeO.ite ?_ ?_
      | refine LeO.bind ?_ (fun _ => ?_)
theorem colloquyref20_sectors.mono : ∀ a0 k, LeO (colloquyref20_sectors.f k a0) (colloquyref20_sectors.f (k + 1) a0) := by
  intro a0 k
  obtain ⟨ih0, ih1, ih2⟩ := colloquyref20_sectors.mono_l k
  unfold colloquyref20_sectors.f
  repeat' first
      | (with_reducible exact ih0 _ _)
      | (with_reducible exact ih1 _ _ _ _)
      | (with_reducible exact ih2 _ _ _ _ _ _)
      | (with_reducible exact colloquyref01_Put.mono _ _)
      | (with_reducible exact LeO.refl _)
      | (with_reducible exact LeO.none _)
      | (with_reducible refine LeO.ite ?_ ?_)
      | (with_reducible refine LeO.bind ?_ (fun _ => ?_))
      | exact ih0 _ _
      | exact ih1 _ _ _ _
      | exact ih2 _ _ _ _ _ _
      | exact colloquyref01_Put.mono _ _
      | exact LeO.none _
      | refine LeO.ite ?_ ?_
      | refine LeO.bind ?_ (fun _ => ?_)
set_option maxHeartbeats 8000000 in
set_option maxRecDepth 100000 in
theorem colloquyref20_sectors.calls (k : Nat) (A0 : Option Addr) (c0 : Nat) (l0 : List Int) (r : List (List Int)) (w : World) (hr0 : Kd.C (Kd.int .u8) w A0 l0.length l0) (hc0 : l0.length ≤ c0) (h : colloquyref20_sectors.f k l0 = some r) :
    Calls Try.prog 41 #[.slice A0 l0.length c0] w fun e w' => ∃ v0_ : Value, e = .returned (v0_) ∧ Kd.S (Kd.slice 5 (Kd.int .u8)) 28 w' w.heap.size (fun _ => True) v0_ r ∧ Below w.heap.size w w' := by
  have HR0 := Aside0.mk hr0
  have HC0 := Aside0.mk hc0
  clear hr0 hc0
  have HB := Aside0.mk (Below.refl w.heap.size w)
  have H : ((colloquyref01_Put.f k (l0.length : Int)).bind fun bt153 => (if bt153.1.length + l0.length < 140737488355328 then (colloquyref20_sectors.l0 k (bt153.1 ++ l0) ([] : List (List Int))) else (none))) = some r := h
  clear h
  replace H := Option.bind_eq_some_iff.mp H
  obtain ⟨⟨t153, t154⟩, A20, H⟩ := H
  replace H : (if t153.length + l0.length < 140737488355328 then (colloquyref20_sectors.l0 k (t153 ++ l0) ([] : List (List Int))) else (none)) = some r := H
  have A2 := Aside0.mk A20
  clear A20
  by_cases c3 : t153.length + l0.length < 140737488355328
  · rw [if_pos c3] at H
    have LMc3 := Aside0.mk c3
    clear c3
    obtain ⟨y157, hy157⟩ : ∃ y_ : List Int, y_ = (t153 ++ l0) := ⟨_, rfl⟩
    replace H : (colloquyref20_sectors.l0 k y157 ([] : List (List Int))) = some r := by first | (rw [hy157]; with_reducible exact H) | (have H2_ := (Option.bind_some _ _).symm.trans H; rw [hy157]; with_reducible exact H2_) | (have H2_ := (Option.bind_some _ _).symm.trans H; with_reducible exact H2_) | with_reducible exact H | (rw [hy157]; exact H) | exact H
    have Ny157 := Aside0.mk hy157
    clear hy157
    have H' := Aside0.mk H
    clear H
    go_enter Try.func41, Try.ntmps41
    go_wp2_with (first | ((with_reducible refine gate_callee (f := 47) rfl ?_); refine goesL_ (some 13) rfl rfl Try.func47 (by kernel_rfl) rfl #[.int .i64 (l0.length : Int)] rfl (by (try simp only [List.map_toArray, List.map_cons, List.map_nil]); first | done | rfl | (simp only [List.length_drop, List.length_take]; rfl)) ?_; (with_reducible refine (colloquyref01_Put.calls k (l0.length : Int) t153 t154 _ A2.out).mono ?_); rintro e w4 ⟨v155, rfl, ho0, hb⟩; refine ⟨_, rfl, ?_⟩; have n0_ := Aside0.mk (Kd.R_lower ho0 (below_size (by repeat (first | (with_reducible first | exact HB.out | apply below_alloc | apply pw_below_drewN | apply below_drew1) | exact HB.out)))); have n1_ := Aside0.mk (below_step (by repeat (first | (with_reducible first | exact HB.out | apply below_alloc | apply pw_below_drewN | apply below_drew1) | exact HB.out)) hb); clear HB; have HO156 := n0_; have HB := n1_; clear n0_ n1_; (try clear hb); (try clear hb2); (try clear hk); (try clear hi); (try clear ho0)) | ((with_reducible refine gate_builtin (b := .append) (xs := #[.tmp 16, .tmp 17]) rfl ?_); at_builtin; refine Kd.R_append_rows (Kd.int .u8) (w0 := w) w.heap.size rfl (.tmp 16) (.tmp 17) 28 5 (.int .u8 0) 1 rfl Try.underlying28 info5 rfl (by decide) (by omega) v155 t153 l0 _ _ _ (fun _ => True) (fun _ => False) rfl rfl ?aO ?aR (fun _ _ h => h) (fun _ h => h.elim) ?aF ?aB ?aS ?aL ?_; (case aR => repeat (first | exact (Kd.C_below HR0.out HB.out) | (with_reducible refine Kd.C_alloc ?_ _) | (with_reducible refine Kd.C_drewN ?_ _) | (with_reducible refine Kd.C_drew ?_))); (case aB => exact (by repeat (first | (with_reducible first | exact HB.out | apply below_alloc | apply pw_below_drewN | apply below_drew1) | exact HB.out))); (case aF => exact (fun _ _ => trivial)); (case aO => exact (by (with_reducible repeat (first | apply Kd.R_alloc | apply Kd.R_drewN | apply Kd.R_drew)); exact HO156.out)); (case aS => exact (below_size (by repeat (first | (with_reducible first | exact HB.out | apply below_alloc | apply pw_below_drewN | apply below_drew1) | exact HB.out)))); (case aL => have := LMc3.out; omega); intro v158 w5 ho hb hg hat; rw [← Ny157.out] at ho; have n0_ := Aside0.mk (hb); have n1_ := Aside0.mk (ho); clear HB; clear HO156; have HB := n0_; have HO159 := n1_; clear n0_ n1_; clear ho hb hg hat))
    go_loopg [3, 5] k (fun kq v3 v5 w' => ∃ (x3_1 : List Int) (x5_1 : List (List Int)), Aside0 (colloquyref20_sectors.l0 kq x3_1 x5_1 = some r) ∧ Aside0 (kq ≤ k) ∧ Aside0 (Kd.Q (Kd.int .u8) 5 w' w.heap.size (fun _ => True) v3 x3_1) ∧ Aside0 (Kd.S (Kd.slice 5 (Kd.int .u8)) 28 w' w.heap.size (fun k_ => some k_ ≠ (v3 : Value).ownBlock) v5 x5_1) ∧ Aside0 (Below w.heap.size w w'))
    case atStart => exact ⟨(y157), (([] : List (List Int))), H', ⟨Nat.le_refl _⟩, ⟨Kd.Q_of_R (by (with_reducible repeat (first | apply Kd.R_alloc | apply Kd.R_drewN | apply Kd.R_drew)); exact HO159.out)⟩, ⟨by first | exact Kd.S_nil _ _ _ _ _ | exact Kd.N_nil _ _ _ _ _ | exact Kd.V_nil _ _ _ _ _ | exact Kd.Q_nil _ _ _ _ _ | exact Kd.R_nil _ _ _ _ _⟩, ⟨by repeat (first | (with_reducible first | exact HB.out | apply below_alloc | apply pw_below_drewN | apply below_drew1) | exact HB.out)⟩⟩
    case round =>
      clear H'
      try clear p2
      try clear c3
      try clear c4
      obtain ⟨x3_1, x5_1, HA, HK1, HO_3, HO_5, HB⟩ := hrel
      cases gk with
      | zero => exact absurd HA.out (by simp [colloquyref20_sectors.l0])
      | succ k1 =>
        have H := HA.out
        clear HA
        simp only [colloquyref20_sectors.l0] at H
        by_cases c6 : (x3_1.length : Int) > 0
        · rw [if_pos c6] at H
          have c6b0 : decide (0 < (x3_1.length : Int)) = true := decide_eq_true c6
          have c6b1 : decide (0 < x3_1.length) = true := decide_eq_true (by omega)
          clear c6
          have HC7 := Aside0.mk H
          clear H
          obtain ⟨Ao8, co8, eo8, _⟩ := Kd.Q_slice HO_3.out
          subst eo8
          go_upto_if 24 with (fail)
          go_cut [6, 7] (fun v6 v7 wc => ∃ (kq : Nat) (x6_6 : Int) (x7_6 : Int), v6 = .int .i64 x6_6 ∧ v7 = .int .u8 x7_6 ∧ Aside0 (colloquyref20_sectors.j1 kq x3_1 x5_1 x6_6 x7_6 = some r) ∧ Aside0 (kq ≤ k1) ∧ Aside0 (Kd.Q (Kd.int .u8) 5 wc w.heap.size (fun _ => True) (.slice Ao8 x3_1.length co8) x3_1) ∧ Aside0 (Kd.S (Kd.slice 5 (Kd.int .u8)) 28 wc w.heap.size (fun k_ => some k_ ≠ ((.slice Ao8 x3_1.length co8) : Value).ownBlock) u5 x5_1) ∧ Aside0 (Below w.heap.size w wc))
          case first =>
            have H := HC7.out
            clear HC7
            by_cases c9 : (x3_1.length : Int) ≤ 15
            · rw [if_pos c9] at H
              have c9b0 : decide ((x3_1.length : Int) ≤ 15) = true := decide_eq_true c9
              have c9b1 : decide (x3_1.length ≤ 15) = true := decide_eq_true (by omega)
              clear c9
              (first | rw [c9b0] | (simp only [i64_w, i32_w]; rw [c9b0]) | skip)
              have H' := Aside0.mk H
              clear H
              go_wp2
              go_meet
              case rel => exact ⟨_, ((x3_1.length : Int)), (2), (by first | rfl | (simp; done) | (simp [*]; done)), (by first | rfl | (simp; done) | (simp [*]; done)), H', ⟨by have := HK1.out; first | omega | exact Nat.le_refl _⟩, ⟨by (with_reducible repeat (first | apply Kd.Q_alloc | apply Kd.Q_drewN | apply Kd.Q_drew)); exact HO_3.out⟩, ⟨by (with_reducible repeat (first | apply Kd.S_alloc | apply Kd.S_drewN | apply Kd.S_drew)); exact HO_5.out⟩, ⟨by repeat (first | (with_reducible first | exact HB.out | apply below_alloc | apply pw_below_drewN | apply below_drew1) | exact HB.out)⟩⟩
            · rw [if_neg c9] at H
              have c9b0 : decide ((x3_1.length : Int) ≤ 15) = false := decide_eq_false c9
              have c9b1 : decide (x3_1.length ≤ 15) = false := decide_eq_false (by omega)
              clear c9
              (first | rw [c9b0] | (simp only [i64_w, i32_w]; rw [c9b0]) | skip)
              have H' := Aside0.mk H
              clear H
              go_wp2
              go_meet
              case rel => exact ⟨_, (15), (1), (by first | rfl | (simp; done) | (simp [*]; done)), (by first | rfl | (simp; done) | (simp [*]; done)), H', ⟨by have := HK1.out; first | omega | exact Nat.le_refl _⟩, ⟨by (with_reducible repeat (first | apply Kd.Q_alloc | apply Kd.Q_drewN | apply Kd.Q_drew)); exact HO_3.out⟩, ⟨by (with_reducible repeat (first | apply Kd.S_alloc | apply Kd.S_drewN | apply Kd.S_drew)); exact HO_5.out⟩, ⟨by repeat (first | (with_reducible first | exact HB.out | apply below_alloc | apply pw_below_drewN | apply below_drew1) | exact HB.out)⟩⟩
          case rest =>
            clear HC7
            try clear p2
            try clear c3
            try clear c4
            try clear c6
            try clear c6b0
            try clear c6b1
            try clear c9
            try clear c9b0
            try clear c9b1
            try clear p2
            obtain ⟨kq, x6_6, x7_6, rfl, rfl, HA, HJ6, HO_3, HO_5, HB⟩ := hcut
            cases kq with
            | zero => exact absurd HA.out (by simp [colloquyref20_sectors.j1])
            | succ kj6 =>
              have H := HA.out
              clear HA
              simp only [colloquyref20_sectors.j1] at H
              by_cases c10 : 16 ≤ 281474976710656
              · rw [if_pos c10] at H
                have c10b0 := eq_true c10
                have c10b1 : decide (16 ≤ 281474976710656) = true := decide_eq_true c10
                clear c10
                obtain ⟨y160, hy160⟩ : ∃ y_ : List Int, y_ = (List.replicate 16 0) := ⟨_, rfl⟩
                replace H : (colloquyref20_sectors.l1 kj6 x3_1 x5_1 x6_6 x7_6 y160 0) = some r := by first | (rw [hy160]; with_reducible exact H) | (have H2_ := (Option.bind_some _ _).symm.trans H; rw [hy160]; with_reducible exact H2_) | (have H2_ := (Option.bind_some _ _).symm.trans H; with_reducible exact H2_) | with_reducible exact H | (rw [hy160]; exact H) | exact H
                have Ny160 := Aside0.mk hy160
                clear hy160
                have H' := Aside0.mk H
                clear H
                go_wp2_with (first | ((with_reducible refine gate_dst (N := 27) rfl ?_); refine Kd.R_make (Kd.int .u8) _ 5 rfl (N := 27) rfl 28 _ _ rfl 16 rfl rfl Try.underlying28 (.int .u8 0) 1 info5 rfl (by decide) (by omega) 0 (ok := fun _ => True) (okp := fun _ => True) rfl (fun _ hk => hk) trivial (by omega) (by omega) (Below.refl _ _) (Nat.le_refl _) ?_; intro v161 w11 ho12 hb hg_ hnew_; clear hg_ hnew_; (first | rw [← Ny160.out] at ho12 | (simp only [Int.reduceToNat] at ho12; rw [← Ny160.out] at ho12)); have n0_ := Aside0.mk (Kd.Q_elder' (by (with_reducible repeat (first | apply Kd.Q_alloc | apply Kd.Q_drewN | apply Kd.Q_drew)); exact HO_3.out) (Kd.R_base ho12) hb); have n1_ := Aside0.mk (Kd.S_elder' (by (with_reducible repeat (first | apply Kd.S_alloc | apply Kd.S_drewN | apply Kd.S_drew)); exact HO_5.out) (Kd.R_base ho12) hb); have n2_ := Aside0.mk (Kd.R_lower (Kd.R_new' ho12 (Kd.Q_lt (by (with_reducible repeat (first | apply Kd.Q_alloc | apply Kd.Q_drewN | apply Kd.Q_drew)); exact HO_3.out))) (below_size (by repeat (first | (with_reducible first | exact HB.out | apply below_alloc | apply pw_below_drewN | apply below_drew1) | exact HB.out)))); have n3_ := Aside0.mk (below_step (by repeat (first | (with_reducible first | exact HB.out | apply below_alloc | apply pw_below_drewN | apply below_drew1) | exact HB.out)) hb); clear HO_3; clear HO_5; clear HB; have HO_3 := n0_; have HO_5 := n1_; have HO162 := n2_; have HB := n3_; clear n0_ n1_ n2_ n3_; clear hb ho12))
                go_loopg [9] kj6 (fun kq v9 w' => ∃ (x8_3 : List Int) (x9_3 : Int), v9 = .int .i64 x9_3 ∧ Aside0 (colloquyref20_sectors.l1 kq x3_1 x5_1 x6_6 x7_6 x8_3 x9_3 = some r) ∧ Aside0 (kq ≤ kj6) ∧ Aside0 (Kd.Q (Kd.int .u8) 5 w' w.heap.size (fun k_ => some k_ ≠ (v161 : Value).ownBlock) (.slice Ao8 x3_1.length co8) x3_1) ∧ Aside0 (Kd.S (Kd.slice 5 (Kd.int .u8)) 28 w' w.heap.size (fun k_ => some k_ ≠ ((.slice Ao8 x3_1.length co8) : Value).ownBlock ∧ some k_ ≠ (v161 : Value).ownBlock) u5 x5_1) ∧ Aside0 (Kd.R (Kd.int .u8) 5 w' w.heap.size (fun k_ => some k_ ≠ ((.slice Ao8 x3_1.length co8) : Value).ownBlock) v161 x8_3) ∧ Aside0 (Below w.heap.size w w'))
                case atStart => exact ⟨(y160), (0), (by first | rfl | (simp; done) | (simp [*]; done)), H', ⟨Nat.le_refl _⟩, ⟨by (with_reducible repeat (first | apply Kd.Q_alloc | apply Kd.Q_drewN | apply Kd.Q_drew)); exact Kd.Q_mono HO_3.out (fun _ hk => hk.2)⟩, ⟨by (with_reducible repeat (first | apply Kd.S_alloc | apply Kd.S_drewN | apply Kd.S_drew)); exact HO_5.out⟩, ⟨by (with_reducible repeat (first | apply Kd.R_alloc | apply Kd.R_drewN | apply Kd.R_drew)); exact Kd.R_mono HO162.out (fun _ hk => hk.2)⟩, ⟨by repeat (first | (with_reducible first | exact HB.out | apply below_alloc | apply pw_below_drewN | apply below_drew1) | exact HB.out)⟩⟩
                case round =>
                  clear H'
                  try clear c1
                  try clear p2
                  try clear c3
                  try clear c4
                  try clear c6
                  try clear c6b0
                  try clear c6b1
                  try clear c9
                  try clear c9b0
                  try clear c9b1
                  try clear c10
                  try clear c10b0
                  try clear c10b1
                  try clear p2
                  obtain ⟨x8_3, x9_3, rfl, HA, HK3, HO_3, HO_5, HO_8, HB⟩ := hrel
                  cases gk with
                  | zero => exact absurd HA.out (by simp [colloquyref20_sectors.l1])
                  | succ k3 =>
                    have H := HA.out
                    clear HA
                    simp only [colloquyref20_sectors.l1] at H
                    by_cases c13 : x9_3 < x6_6
                    · rw [if_pos c13] at H
                      have c13b0 : decide (x9_3 < x6_6) = true := decide_eq_true c13
                      clear c13
                      by_cases c14 : 0 ≤ x9_3
                      · rw [if_pos c14] at H
                        have c14b0 : decide (0 ≤ x9_3) = true := decide_eq_true c14
                        clear c14
                        by_cases c15 : x9_3 < (x3_1.length : Int)
                        · rw [if_pos c15] at H
                          have c15b0 : decide (x9_3 < (x3_1.length : Int)) = true := decide_eq_true c15
                          clear c15
                          by_cases c16 : x9_3 < (x8_3.length : Int)
                          · rw [if_pos c16] at H
                            have c16b0 : decide (x9_3 < (x8_3.length : Int)) = true := decide_eq_true c16
                            clear c16
                            obtain ⟨y164, hy164⟩ : ∃ y_ : List Int, y_ = (x8_3.set (x9_3 : Int).toNat (rd x3_1 x9_3)) := ⟨_, rfl⟩
                            replace H : (colloquyref20_sectors.l1 k3 x3_1 x5_1 x6_6 x7_6 y164 (wrap64 (x9_3 + 1))) = some r := by first | (rw [hy164]; with_reducible exact H) | (have H2_ := (Option.bind_some _ _).symm.trans H; rw [hy164]; with_reducible exact H2_) | (have H2_ := (Option.bind_some _ _).symm.trans H; with_reducible exact H2_) | with_reducible exact H | (rw [hy164]; exact H) | exact H
                            have Ny164 := Aside0.mk hy164
                            clear hy164
                            have H' := Aside0.mk H
                            clear H
                            have p163 : 0 ≤ (x9_3 : Int) := of_decide_eq_true (by first | (with_reducible assumption) | assumption)
                            have q163 : x9_3 < (x3_1.length : Int) := of_decide_eq_true (by first | (with_reducible assumption) | assumption)
                            obtain ⟨ad163, e163, hx163_0⟩ := Kd.at_int (Kd.Q_reads' HO_3.out).2.2 x9_3 p163 q163
                            cases e163
                            replace p163 := eq_true p163
                            replace q163 := eq_true q163
                            have p17 : 0 ≤ (x9_3 : Int) := of_decide_eq_true (by first | (with_reducible assumption) | assumption)
                            have q17 : (x9_3 : Int) < ((x8_3.length : Int) : Int) := of_decide_eq_true (by first | (with_reducible assumption) | assumption)
                            obtain ⟨go17, co17, eo17, gb17, gl17, cl17, HG17⟩ := Kd.R_form HO_8.out (by omega)
                            (first | cases eo17 | (injection eo17 with ea_ en_ ec_; (first | subst ea_ | (injection ea_ with ea_; subst ea_)); subst ec_; clear en_))
                            have GB17 := Aside0.mk gb17
                            have GG17 := Aside0.mk HG17
                            clear gb17 gl17 HG17
                            obtain ⟨hx17_0, hf17_0⟩ := Kd.R_celln 0 HO_8.out (x9_3 : Int) p17 q17
                            replace p17 := eq_true p17
                            replace q17 := eq_true q17
                            have HP18 := Kd.R_putg HO_8.out (x9_3 : Int) (rd x3_1 x9_3)
                            go_wp2_with (first | ((with_reducible refine gate_store (t := 5) (p := 39) rfl ?_); refine store_event (t := 5) (p := 39) (v := ?vo_w19) (w1 := (wr.setCell ⟨go17, (x9_3 : Int).toNat, none⟩ (.int .u8 (rd x3_1 x9_3)))) ?hg ?ho ?hn ?hr ?_; (case ho => rfl); (case hg => rfl); (case hn => rfl); (case hr => first | (go_simp; done) | (go_simp; rfl)); intro w19 hw; have hg : wr.grownBy w19 (some go17) := (by rw [hw]; exact HP18.2); have hp_ : Kd.R (Kd.int .u8) 5 w19 w.heap.size (fun k_ => some k_ ≠ (.slice (some ad163) x3_1.length co8 : Value).ownBlock) (.slice (some ⟨go17, 0, none⟩) x8_3.length co17) y164 := (by rw [hw, Ny164.out]; exact HP18.1); clear HP18; have n0_ := Aside0.mk (Kd.Q_after (v := (.slice (some ⟨go17, 0, none⟩) x8_3.length co17)) (v1 := (.slice (some ⟨go17, 0, none⟩) x8_3.length co17)) (ok := (fun _ => True)) (by (with_reducible repeat (first | apply Kd.Q_alloc | apply Kd.Q_drewN | apply Kd.Q_drew)); exact Kd.Q_mono HO_3.out (fun _ hk => ⟨trivial, hk⟩)) hg (.inl rfl)); have n1_ := Aside0.mk (Kd.S_after (v := (.slice (some ⟨go17, 0, none⟩) x8_3.length co17)) (v1 := (.slice (some ⟨go17, 0, none⟩) x8_3.length co17)) (ok := (fun k_ => some k_ ≠ (.slice (some ad163) x3_1.length co8 : Value).ownBlock)) (by (with_reducible repeat (first | apply Kd.S_alloc | apply Kd.S_drewN | apply Kd.S_drew)); exact HO_5.out) hg (.inl rfl)); have n2_ := Aside0.mk (hp_); have n3_ := Aside0.mk ((by rw [hw]; exact below_set (HB.out) GB17.out : Below w.heap.size w w19)); clear HO_3; clear HO_5; clear HO_8; clear HB; have HO_3 := n0_; have HO_5 := n1_; have HO_8 := n2_; have HB := n3_; clear n0_ n1_ n2_ n3_; clear hg hw hp_))
                            go_roundg k3
                            case measure => have := HK1.out; have := HJ6.out; have := HK3.out; omega
                            case rel => exact ⟨(y164), (wrap64 (x9_3 + 1)), (by first | rfl | (simp; done) | (simp [*]; done)), H', ⟨by have := HK1.out; have := HJ6.out; have := HK3.out; omega⟩, ⟨by (with_reducible repeat (first | apply Kd.Q_alloc | apply Kd.Q_drewN | apply Kd.Q_drew)); exact Kd.Q_mono HO_3.out (fun _ hk => hk.2)⟩, ⟨by (with_reducible repeat (first | apply Kd.S_alloc | apply Kd.S_drewN | apply Kd.S_drew)); exact HO_5.out⟩, ⟨by (with_reducible repeat (first | apply Kd.R_alloc | apply Kd.R_drewN | apply Kd.R_drew)); exact HO_8.out⟩, ⟨by repeat (first | (with_reducible first | exact HB.out | apply below_alloc | apply pw_below_drewN | apply below_drew1) | exact HB.out)⟩⟩
                          · rw [if_neg c16] at H
                            exact absurd H (by simp)
                        · rw [if_neg c15] at H
                          exact absurd H (by simp)
                      · rw [if_neg c14] at H
                        exact absurd H (by simp)
                    · rw [if_neg c13] at H
                      have c13b0 : decide (x9_3 < x6_6) = false := decide_eq_false c13
                      clear c13
                      by_cases c20 : 15 < (x8_3.length : Int)
                      · rw [if_pos c20] at H
                        have c20b0 : decide (15 < (x8_3.length : Int)) = true := decide_eq_true c20
                        have c20b1 : decide (15 < x8_3.length) = true := decide_eq_true (by omega)
                        clear c20
                        obtain ⟨y165, hy165⟩ : ∃ y_ : List Int, y_ = (x8_3.set (15 : Int).toNat x7_6) := ⟨_, rfl⟩
                        replace H : (if x5_1.length < 5864062014805 then (if 0 ≤ x6_6 then (if x6_6 ≤ (x3_1.length : Int) then (colloquyref20_sectors.l0 k3 (x3_1.drop (x6_6 : Int).toNat) (x5_1 ++ [y165])) else (none)) else (none)) else (none)) = some r := by first | (rw [hy165]; with_reducible exact H) | (have H2_ := (Option.bind_some _ _).symm.trans H; rw [hy165]; with_reducible exact H2_) | (have H2_ := (Option.bind_some _ _).symm.trans H; with_reducible exact H2_) | with_reducible exact H | (rw [hy165]; exact H) | exact H
                        have Ny165 := Aside0.mk hy165
                        clear hy165
                        by_cases c22 : x5_1.length < 5864062014805
                        · rw [if_pos c22] at H
                          have LMc22 := Aside0.mk c22
                          clear c22
                          obtain ⟨y166, hy166⟩ : ∃ y_ : List (List Int), y_ = (x5_1 ++ [y165]) := ⟨_, rfl⟩
                          replace H : (if 0 ≤ x6_6 then (if x6_6 ≤ (x3_1.length : Int) then (colloquyref20_sectors.l0 k3 (x3_1.drop (x6_6 : Int).toNat) y166) else (none)) else (none)) = some r := by first | (rw [hy166]; with_reducible exact H) | (have H2_ := (Option.bind_some _ _).symm.trans H; rw [hy166]; with_reducible exact H2_) | (have H2_ := (Option.bind_some _ _).symm.trans H; with_reducible exact H2_) | with_reducible exact H | (rw [hy166]; exact H) | exact H
                          have Ny166 := Aside0.mk hy166
                          clear hy166
                          by_cases c23 : 0 ≤ x6_6
                          · rw [if_pos c23] at H
                            have c23b0 := eq_true c23
                            have c23b1 : decide (0 ≤ x6_6) = true := decide_eq_true c23
                            clear c23
                            by_cases c24 : x6_6 ≤ (x3_1.length : Int)
                            · rw [if_pos c24] at H
                              have c24b0 := eq_true c24
                              have c24b1 : decide (x6_6 ≤ (x3_1.length : Int)) = true := decide_eq_true c24
                              clear c24
                              obtain ⟨y169, hy169⟩ : ∃ y_ : List Int, y_ = (x3_1.drop (x6_6 : Int).toNat) := ⟨_, rfl⟩
                              replace H : (colloquyref20_sectors.l0 k3 y169 y166) = some r := by first | (rw [hy169]; with_reducible exact H) | (have H2_ := (Option.bind_some _ _).symm.trans H; rw [hy169]; with_reducible exact H2_) | (have H2_ := (Option.bind_some _ _).symm.trans H; with_reducible exact H2_) | with_reducible exact H | (rw [hy169]; exact H) | exact H
                              have Ny169 := Aside0.mk hy169
                              clear hy169
                              have H' := Aside0.mk H
                              clear H
                              have p21 : 0 ≤ (15 : Int) := (by omega)
                              have q21 : (15 : Int) < ((x8_3.length : Int) : Int) := of_decide_eq_true (by first | (with_reducible assumption) | assumption)
                              have qi21 : (15 < x8_3.length) = True := eq_true (by omega)
                              obtain ⟨go21, co21, eo21, gb21, gl21, cl21, HG21⟩ := Kd.R_form HO_8.out (by omega)
                              (first | cases eo21 | (injection eo21 with ea_ en_ ec_; (first | subst ea_ | (injection ea_ with ea_; subst ea_)); subst ec_; clear en_))
                              have GB21 := Aside0.mk gb21
                              have GG21 := Aside0.mk HG21
                              clear gb21 gl21 HG21
                              obtain ⟨hx21_0, hf21_0⟩ := Kd.R_celln 0 HO_8.out (15 : Int) p21 q21
                              (try rw [show ((15 : Int)).toNat = 15 from rfl] at hx21_0)
                              (try simp only [Nat.reduceMul, Nat.zero_mul, Nat.zero_add, Nat.reduceAdd] at hx21_0)
                              (try rw [show ((15 : Int)).toNat = 15 from rfl] at hf21_0)
                              (try simp only [Nat.reduceMul, Nat.zero_mul, Nat.zero_add, Nat.reduceAdd] at hf21_0)
                              replace p21 := eq_true p21
                              replace q21 := eq_true q21
                              have HP25 := Kd.R_putg HO_8.out (15 : Int) x7_6
                              go_wp2_with (first | ((with_reducible refine gate_store (t := 5) (p := 42) rfl ?_); refine store_event (t := 5) (p := 42) (v := ?vo_w26) (w1 := (wr.setCell ⟨go21, (15 : Int).toNat, none⟩ (.int .u8 x7_6))) ?hg ?ho ?hn ?hr ?_; (case ho => rfl); (case hg => rfl); (case hn => rfl); (case hr => first | (go_simp; done) | (go_simp; rfl)); intro w26 hw; have hg : wr.grownBy w26 (some go21) := (by rw [hw]; exact HP25.2); have hp_ : Kd.R (Kd.int .u8) 5 w26 w.heap.size (fun k_ => some k_ ≠ (.slice Ao8 x3_1.length co8 : Value).ownBlock) (.slice (some ⟨go21, 0, none⟩) x8_3.length co21) y165 := (by rw [hw, Ny165.out]; exact HP25.1); clear HP25; have n0_ := Aside0.mk (Kd.Q_after (v := (.slice (some ⟨go21, 0, none⟩) x8_3.length co21)) (v1 := (.slice (some ⟨go21, 0, none⟩) x8_3.length co21)) (ok := (fun _ => True)) (by (with_reducible repeat (first | apply Kd.Q_alloc | apply Kd.Q_drewN | apply Kd.Q_drew)); exact Kd.Q_mono HO_3.out (fun _ hk => ⟨trivial, hk⟩)) hg (.inl rfl)); have n1_ := Aside0.mk (Kd.S_after (v := (.slice (some ⟨go21, 0, none⟩) x8_3.length co21)) (v1 := (.slice (some ⟨go21, 0, none⟩) x8_3.length co21)) (ok := (fun k_ => some k_ ≠ (.slice Ao8 x3_1.length co8 : Value).ownBlock)) (by (with_reducible repeat (first | apply Kd.S_alloc | apply Kd.S_drewN | apply Kd.S_drew)); exact HO_5.out) hg (.inl rfl)); have n2_ := Aside0.mk (hp_); have n3_ := Aside0.mk ((by rw [hw]; exact below_set (HB.out) GB21.out : Below w.heap.size w w26)); clear HO_3; clear HO_5; clear HO_8; clear HB; have HO_3 := n0_; have HO_5 := n1_; have HO_8 := n2_; have HB := n3_; clear n0_ n1_ n2_ n3_; clear hg hw hp_) | ((with_reducible refine gate_builtin (b := .append) (xs := #[.tmp 43, .tmp 45]) rfl ?_); at_builtin; refine Kd.S_append (Kd.slice 5 (Kd.int .u8)) (w0 := w) w.heap.size rfl (.tmp 43) (.tmp 45) 22 28 (.slice none 0 0) 24 rfl Try.underlying22 info28 rfl (by decide) (by omega) u5 x5_1 y165 [.slice (some ⟨go21, 0, none⟩) x8_3.length co21] (fun k_ => some k_ ≠ (.slice Ao8 x3_1.length co8 : Value).ownBlock) (fun k_ => some k_ = (.slice (some ⟨go21, 0, none⟩) x8_3.length co21 : Value).ownBlock) rfl rfl ?aP (fun k_ hk_ => ((Kd.R_mono (ok' := fun k_ => ((fun k_ => some k_ ≠ (.slice Ao8 x3_1.length co8 : Value).ownBlock)) k_ ∧ some k_ ≠ (u5 : Value).ownBlock) (Kd.R_apart' (HO_8.out) (Kd.S_typed HO_5.out) (by decide)) (fun k_ hk => ⟨hk.1, hk.2⟩))).1 k_ hk_.symm) ?aF ?aO ?aB ?aS ?aL ?_; (case aP => exact Kd.M_row (Kd.R_mono (Kd.R_tight rfl (Kd.R_mono (ok' := fun k_ => ((fun k_ => some k_ ≠ (.slice Ao8 x3_1.length co8 : Value).ownBlock)) k_ ∧ some k_ ≠ (u5 : Value).ownBlock) (Kd.R_apart' (HO_8.out) (Kd.S_typed HO_5.out) (by decide)) (fun k_ hk => ⟨hk.1, hk.2⟩))) (fun _ h_ => h_))); (case aB => exact (by repeat (first | (with_reducible first | exact HB.out | apply below_alloc | apply pw_below_drewN | apply below_drew1) | exact HB.out))); (case aF => exact (fun k_ hk => Kd.fresh' (Kd.Q_lt (by (with_reducible repeat (first | apply Kd.Q_alloc | apply Kd.Q_drewN | apply Kd.Q_drew)); exact HO_3.out)) k_ hk)); (case aO => exact (by (with_reducible repeat (first | apply Kd.S_alloc | apply Kd.S_drewN | apply Kd.S_drew)); exact Kd.S_mono HO_5.out (fun k_ hk => ⟨hk.1, fun e_ => hk.2 e_⟩))); (case aS => exact (below_size (by repeat (first | (with_reducible first | exact HB.out | apply below_alloc | apply pw_below_drewN | apply below_drew1) | exact HB.out)))); (case aL => have := LMc22.out; omega); intro v167 w27 ho hb hg hat; rw [← Ny166.out] at ho; have n0_ := Aside0.mk (Kd.Q_over' (by (with_reducible repeat (first | apply Kd.Q_alloc | apply Kd.Q_drewN | apply Kd.Q_drew)); exact HO_3.out) (Kd.S_typed (by (with_reducible repeat (first | apply Kd.S_alloc | apply Kd.S_drewN | apply Kd.S_drew)); exact HO_5.out)) (by decide) hg); have n1_ := Aside0.mk (hb); have n2_ := Aside0.mk (ho); clear HO_3; clear HB; clear HO_5; clear HO_8; have HO_3 := n0_; have HB := n1_; have HO168 := n2_; clear n0_ n1_ n2_; clear ho hb hg hat; have n_ := Aside0.mk (Kd.Q_mono (ok' := (fun _ => True)) HO_3.out (fun k_ hk => trivial)); clear HO_3; have HO_3 := n_; clear n_; have q28 : (x6_6 : Int) ≤ ((x3_1.length : Int) : Int) := of_decide_eq_true (by first | (with_reducible assumption) | assumption); obtain ⟨i028, hi028, _, hsz28, _⟩ := info_parts info5; have hcut28 := cut_from (P := Try.prog) 28 5 .i64 Try.underlying28 hi028 1 hsz28 Ao8 x3_1.length co8 x6_6 (of_decide_eq_true (by first | (with_reducible assumption) | assumption)) q28; have hr28 := Kd.Q_drop (k := (x6_6 : Int).toNat) HO_3.out (by omega); obtain ⟨A28, hA28⟩ : ∃ A1, A1 = (if co8 = (x6_6 : Int).toNat then Ao8 else (Ao8 : Option Addr).map (·.add ((x6_6 : Int).toNat * 1))) := ⟨_, rfl⟩; obtain ⟨c28, hc28⟩ : ∃ c1, c1 = co8 - (x6_6 : Int).toNat := ⟨_, rfl⟩; have hy28 : y169.length = x3_1.length - (x6_6 : Int).toNat := (by rw [Ny169.out, List.length_drop]); rw [← Ny169.out] at hr28; rw [← hy28, ← hA28, ← hc28] at hcut28; replace hr28 : Kd.Q (Kd.int .u8) 5 w27 w.heap.size (fun _ => True) (.slice A28 y169.length c28) y169 := (by rw [hA28, hc28, hy28]; exact hr28); have HE28 : Aside0 ((Value.slice A28 y169.length c28).ownBlock = (.slice Ao8 x3_1.length co8 : Value).ownBlock) := ⟨by rw [hA28]; split <;> (cases (Ao8 : Option Addr) <;> first | rfl | (simp only [Option.map_some, Value.ownBlock, Addr.add]; split <;> rfl))⟩; clear hy28 hi028 hsz28 HO_3 hA28 hc28; have HO171 := Aside0.mk hr28; clear hr28; replace q28 := eq_true q28; have n_ := Aside0.mk (Kd.S_mono (ok' := fun k_ => some k_ ≠ (.slice A28 y169.length c28 : Value).ownBlock) HO168.out (fun k_ hk => (by rw [HE28.out]; exact hk))); clear HO168; have HO168 := n_; clear n_))
                              go_roundg k3
                              case measure => have := HK1.out; have := HJ6.out; have := HK3.out; omega
                              case rel => exact ⟨(y169), (y166), H', ⟨by have := HK1.out; have := HJ6.out; have := HK3.out; omega⟩, ⟨by (with_reducible repeat (first | apply Kd.Q_alloc | apply Kd.Q_drewN | apply Kd.Q_drew)); exact HO171.out⟩, ⟨by (with_reducible repeat (first | apply Kd.S_alloc | apply Kd.S_drewN | apply Kd.S_drew)); exact HO168.out⟩, ⟨by repeat (first | (with_reducible first | exact HB.out | apply below_alloc | apply pw_below_drewN | apply below_drew1) | exact HB.out)⟩⟩
                            · rw [if_neg c24] at H
                              exact absurd H (by simp)
                          · rw [if_neg c23] at H
                            exact absurd H (by simp)
                        · rw [if_neg c22] at H
                          exact absurd H (by simp)
                      · rw [if_neg c20] at H
                        exact absurd H (by simp)
              · rw [if_neg c10] at H
                exact absurd H (by simp)
        · rw [if_neg c6] at H
          have c6b0 : decide (0 < (x3_1.length : Int)) = false := decide_eq_false c6
          have c6b1 : decide (0 < x3_1.length) = false := decide_eq_false (by omega)
          clear c6
          obtain rfl := Option.some.inj H
          obtain ⟨Ao29, co29, eo29, _⟩ := Kd.Q_slice HO_3.out
          subst eo29
          go_wp2
          go_ret
          exact ⟨_, by first | rfl | (simp [errW_none, errW_some] <;> rfl) | (simp [*, errW_none, errW_some] <;> rfl), by (with_reducible repeat (first | apply Kd.S_alloc | apply Kd.S_drewN | apply Kd.S_drew)); exact Kd.S_mono HO_5.out (fun _ hk => trivial), by repeat (first | (with_reducible first | exact HB.out | apply below_alloc | apply pw_below_drewN | apply below_drew1) | exact HB.out)⟩
  · rw [if_neg c3] at H
    exact absurd H (by simp)

/-! ### colloquyref01_Get: function 45 -/
mutual
def colloquyref01_Get.l0 : Nat → List Int → Int → Int → Option (Int × Int × Int)
  | 0, _, _, _ => none
  | k + 1, x0, x5, x6 => if x6 < 8 then (if x6 ≥ (x0.length : Int) then (some (0, 0, 3)) else (if 0 ≤ x6 then (if x6 < (x0.length : Int) then (if x6 = 0 then (if (wrap64 (rd x0 x6)) = 128 then (colloquyref01_Get.j1 k x0 x5 x6 (wrap64 (rd x0 x6)) true) else (if x6 = 7 then (colloquyref01_Get.j1 k x0 x5 x6 (wrap64 (rd x0 x6)) (decide ((wrap64 (rd x0 x6)) ≥ 128))) else (colloquyref01_Get.j1 k x0 x5 x6 (wrap64 (rd x0 x6)) false))) else (if x6 = 7 then (colloquyref01_Get.j1 k x0 x5 x6 (wrap64 (rd x0 x6)) (decide ((wrap64 (rd x0 x6)) ≥ 128))) else (colloquyref01_Get.j1 k x0 x5 x6 (wrap64 (rd x0 x6)) false))) else (none)) else (none))) else (some (0, 0, 2))
def colloquyref01_Get.j1 : Nat → List Int → Int → Int → Int → Bool → Option (Int × Int × Int)
  | 0, _, _, _, _, _ => none
  | k + 1, x0, x5, x6, x7, x34 => if x34 = true then (some (0, 0, 2)) else (if x7 < 128 then (some (wrap64 ((wrap64 (x5 * 128)) + x7), wrap64 (x6 + 1), 0)) else (colloquyref01_Get.l0 k x0 (wrap64 ((wrap64 ((wrap64 (x5 * 128)) + x7)) - 128)) (wrap64 (x6 + 1))))
end
def colloquyref01_Get.f (k : Nat) (l0 : List Int) : Option (Int × Int × Int) := colloquyref01_Get.l0 k l0 0 0
theorem colloquyref01_Get.mono_l : ∀ k, (∀ y0 y1 y2, LeO (colloquyref01_Get.l0 k y0 y1 y2) (colloquyref01_Get.l0 (k + 1) y0 y1 y2)) ∧ (∀ y0 y1 y2 y3 y4, LeO (colloquyref01_Get.j1 k y0 y1 y2 y3 y4) (colloquyref01_Get.j1 (k + 1) y0 y1 y2 y3 y4))
  | 0 => ⟨fun _ _ _ r h => by simp [colloquyref01_Get.l0] at h, fun _ _ _ _ _ r h => by simp [colloquyref01_Get.j1] at h⟩
  | k + 1 => by
    obtain ⟨ih0, ih1⟩ := colloquyref01_Get.mono_l k
    refine ⟨?_, ?_⟩
    · intro y0 y1 y2
      unfold colloquyref01_Get.l0
      repeat' first
      | (with_reducible exact ih0 _ _ _)
      | (with_reducible exact ih1 _ _ _ _ _)
      | (with_reducible exact LeO.refl _)
      | (with_reducible exact LeO.none _)
      | (with_reducible refine LeO.ite ?_ ?_)
      | (with_reducible refine LeO.bind ?_ (fun _ => ?_))
      | exact ih0 _ _ _
      | exact ih1 _ _ _ _ _
      | exact LeO.none _
      | refine LeO.ite ?_ ?_
      | refine LeO.bind ?_ (fun _ => ?_)
    · intro y0 y1 y2 y3 y4
      unfold colloquyref01_Get.j1
      repeat' first
      | (with_reducible exact ih0 _ _ _)
      | (with_reducible exact ih1 _ _ _ _ _)
      | (with_reducible exact LeO.refl _)
      | (with_reducible exact LeO.none _)
      | (with_reducible refine LeO.ite ?_ ?_)
      | (with_reducible refine LeO.bind ?_ (fun _ => ?_))
      | exact ih0 _ _ _
      | exact ih1 _ _ _ _ _
      | exact LeO.none _
      | refine LeO.ite ?_ ?_
      | refine LeO.bind ?_ (fun _ => ?_)
theorem colloquyref01_Get.mono : ∀ a0 k, LeO (colloquyref01_Get.f k a0) (colloquyref01_Get.f (k + 1) a0) := by
  intro a0 k
  obtain ⟨ih0, ih1⟩ := colloquyref01_Get.mono_l k
  unfold colloquyref01_Get.f
  repeat' first
      | (with_reducible exact ih0 _ _ _)
      | (with_reducible exact ih1 _ _ _ _ _)
      | (with_reducible exact LeO.refl _)
      | (with_reducible exact LeO.none _)
      | (with_reducible refine LeO.ite ?_ ?_)
      | (with_reducible refine LeO.bind ?_ (fun _ => ?_))
      | exact ih0 _ _ _
      | exact ih1 _ _ _ _ _
      | exact LeO.none _
      | refine LeO.ite ?_ ?_
      | refine LeO.bind ?_ (fun _ => ?_)
set_option maxHeartbeats 8000000 in
set_option maxRecDepth 100000 in
theorem colloquyref01_Get.calls (k : Nat) (A0 : Option Addr) (c0 : Nat) (l0 : List Int) (r1 : Int) (r2 : Int) (r3 : Int) (w : World) (hr0 : Kd.C (Kd.int .u8) w A0 l0.length l0) (hc0 : l0.length ≤ c0) (h : colloquyref01_Get.f k l0 = some (r1, r2, r3)) :
    Calls Try.prog 45 #[.slice A0 l0.length c0] w fun e w' => e = .returned (.tuple #[.int .i64 r1, .int .i64 r2, .int .i64 r3]) ∧ Drawn0 w w' := by
  have HR0 := Aside0.mk hr0
  have HC0 := Aside0.mk hc0
  clear hr0 hc0
  have H : (colloquyref01_Get.l0 k l0 0 0) = some (r1, r2, r3) := h
  clear h
  have H' := Aside0.mk H
  clear H
  go_enter Try.func45, Try.ntmps45
  go_wp2
  go_loopg [5, 6] k (fun kq v5 v6 w' => ∃ (x5_1 : Int) (x6_1 : Int), v5 = .int .i64 x5_1 ∧ v6 = .int .i64 x6_1 ∧ Aside0 (colloquyref01_Get.l0 kq l0 x5_1 x6_1 = some (r1, r2, r3)) ∧ Aside0 (kq ≤ k) ∧ Drawn0 w w')
  case atStart => exact ⟨(0), (0), (by first | rfl | (simp; done) | (simp [*]; done)), (by first | rfl | (simp; done) | (simp [*]; done)), H', ⟨Nat.le_refl _⟩, by repeat (first | exact Drawn0.refl _ | apply Drawn0.step)⟩
  case round =>
    clear H'
    obtain ⟨x5_1, x6_1, rfl, rfl, HA, HK1, ⟨m1, rfl⟩⟩ := hrel
    cases gk with
    | zero => exact absurd HA.out (by simp [colloquyref01_Get.l0])
    | succ k1 =>
      have H := HA.out
      clear HA
      simp only [colloquyref01_Get.l0] at H
      by_cases c2 : x6_1 < 8
      · rw [if_pos c2] at H
        have c2b0 : decide (x6_1 < 8) = true := decide_eq_true c2
        clear c2
        by_cases c3 : x6_1 ≥ (l0.length : Int)
        · rw [if_pos c3] at H
          have c3b0 : decide ((l0.length : Int) ≤ x6_1) = true := decide_eq_true c3
          clear c3
          simp only [Option.some.injEq, Prod.mk.injEq] at H
          obtain ⟨rfl, rfl, rfl⟩ := H
          go_wp2
          go_ret3
          exact ⟨by first | rfl | (simp; done) | (simp [*]; done), by repeat (first | exact Drawn0.refl _ | apply Drawn0.step)⟩
        · rw [if_neg c3] at H
          have c3b0 : decide ((l0.length : Int) ≤ x6_1) = false := decide_eq_false c3
          clear c3
          by_cases c4 : 0 ≤ x6_1
          · rw [if_pos c4] at H
            have c4b0 : decide (0 ≤ x6_1) = true := decide_eq_true c4
            clear c4
            by_cases c5 : x6_1 < (l0.length : Int)
            · rw [if_pos c5] at H
              have c5b0 : decide (x6_1 < (l0.length : Int)) = true := decide_eq_true c5
              clear c5
              have HC6 := Aside0.mk H
              clear H
              have p172 : 0 ≤ (x6_1 : Int) := of_decide_eq_true (by first | (with_reducible assumption) | assumption)
              have q172 : x6_1 < (l0.length : Int) := of_decide_eq_true (by first | (with_reducible assumption) | assumption)
              obtain ⟨ad172, e172, hx172_0⟩ := Kd.at_int HR0.out x6_1 p172 q172
              cases e172
              replace p172 := eq_true p172
              replace q172 := eq_true q172
              go_upto_region 8 with (fail)
              go_cut [34] (fun v34 wc => ∃ (kq : Nat) (x34_5 : Bool), v34 = .bool x34_5 ∧ Aside0 (colloquyref01_Get.j1 kq l0 x5_1 x6_1 (wrap64 (rd l0 x6_1)) x34_5 = some (r1, r2, r3)) ∧ Aside0 (kq ≤ k1) ∧ Drawn0 w wc)
              case first =>
                have H := HC6.out
                clear HC6
                by_cases c7 : x6_1 = 0
                · rw [if_pos c7] at H
                  have c7b0 : (x6_1 == 0) = true := beq_iff_eq.mpr c7
                  have c7b1 : (x6_1 != 0) = false := bne_eq_false_iff_eq.mpr c7
                  clear c7
                  (first | rw [c7b0] | (simp only [i64_w, i32_w]; rw [c7b0]) | skip)
                  by_cases c8 : (wrap64 (rd l0 x6_1)) = 128
                  · rw [if_pos c8] at H
                    have c8b0 : ((wrap64 (rd l0 x6_1)) == 128) = true := beq_iff_eq.mpr c8
                    have c8b1 : ((wrap64 (rd l0 x6_1)) != 128) = false := bne_eq_false_iff_eq.mpr c8
                    clear c8
                    have H' := Aside0.mk H
                    clear H
                    go_wp2
                    go_meet
                    case rel => exact ⟨_, (true), (by first | rfl | (simp; done) | (simp [*]; done)), H', ⟨by have := HK1.out; first | omega | exact Nat.le_refl _⟩, by repeat (first | exact Drawn0.refl _ | apply Drawn0.step)⟩
                  · rw [if_neg c8] at H
                    have c8b0 : ((wrap64 (rd l0 x6_1)) == 128) = false := beq_eq_false_iff_ne.mpr c8
                    have c8b1 : ((wrap64 (rd l0 x6_1)) != 128) = true := bne_iff_ne.mpr c8
                    by_cases c9 : x6_1 = 7
                    · rw [if_pos c9] at H
                      have c9b0 : (x6_1 == 7) = true := beq_iff_eq.mpr c9
                      have c9b1 : (x6_1 != 7) = false := bne_eq_false_iff_eq.mpr c9
                      clear c9
                      have H' := Aside0.mk H
                      clear H
                      go_wp2
                      go_meet
                      case rel => exact ⟨_, (decide ((wrap64 (rd l0 x6_1)) ≥ 128)), (by first | rfl | (simp; done) | (simp [*]; done)), H', ⟨by have := HK1.out; first | omega | exact Nat.le_refl _⟩, by repeat (first | exact Drawn0.refl _ | apply Drawn0.step)⟩
                    · rw [if_neg c9] at H
                      have c9b0 : (x6_1 == 7) = false := beq_eq_false_iff_ne.mpr c9
                      have c9b1 : (x6_1 != 7) = true := bne_iff_ne.mpr c9
                      have H' := Aside0.mk H
                      clear H
                      go_wp2
                      go_meet
                      case rel => exact ⟨_, (false), (by first | rfl | (simp; done) | (simp [*]; done)), H', ⟨by have := HK1.out; first | omega | exact Nat.le_refl _⟩, by repeat (first | exact Drawn0.refl _ | apply Drawn0.step)⟩
                · rw [if_neg c7] at H
                  have c7b0 : (x6_1 == 0) = false := beq_eq_false_iff_ne.mpr c7
                  have c7b1 : (x6_1 != 0) = true := bne_iff_ne.mpr c7
                  (first | rw [c7b0] | (simp only [i64_w, i32_w]; rw [c7b0]) | skip)
                  by_cases c10 : x6_1 = 7
                  · rw [if_pos c10] at H
                    have c10b0 : (x6_1 == 7) = true := beq_iff_eq.mpr c10
                    have c10b1 : (x6_1 != 7) = false := bne_eq_false_iff_eq.mpr c10
                    clear c10
                    have H' := Aside0.mk H
                    clear H
                    go_wp2
                    go_meet
                    case rel => exact ⟨_, (decide ((wrap64 (rd l0 x6_1)) ≥ 128)), (by first | rfl | (simp; done) | (simp [*]; done)), H', ⟨by have := HK1.out; first | omega | exact Nat.le_refl _⟩, by repeat (first | exact Drawn0.refl _ | apply Drawn0.step)⟩
                  · rw [if_neg c10] at H
                    have c10b0 : (x6_1 == 7) = false := beq_eq_false_iff_ne.mpr c10
                    have c10b1 : (x6_1 != 7) = true := bne_iff_ne.mpr c10
                    have H' := Aside0.mk H
                    clear H
                    go_wp2
                    go_meet
                    case rel => exact ⟨_, (false), (by first | rfl | (simp; done) | (simp [*]; done)), H', ⟨by have := HK1.out; first | omega | exact Nat.le_refl _⟩, by repeat (first | exact Drawn0.refl _ | apply Drawn0.step)⟩
              case rest =>
                clear HC6
                try clear c1
                try clear p1
                try clear q1
                try clear hx1
                try clear c2
                try clear c2b0
                try clear p2
                try clear c3
                try clear c3b0
                try clear c4
                try clear c4b0
                try clear c5
                try clear c5b0
                try clear p6
                try clear c7
                try clear c7b0
                try clear c7b1
                try clear c8
                try clear c8b0
                try clear c8b1
                try clear c9
                try clear c9b0
                try clear c9b1
                try clear c10
                try clear c10b0
                try clear c10b1
                try clear hx172_0
                try clear p172
                try clear q172
                obtain ⟨kq, x34_5, rfl, HA, HJ5, ⟨mc5, rfl⟩⟩ := hcut
                cases kq with
                | zero => exact absurd HA.out (by simp [colloquyref01_Get.j1])
                | succ kj5 =>
                  have H := HA.out
                  clear HA
                  simp only [colloquyref01_Get.j1] at H
                  by_cases c11 : x34_5 = true
                  · subst c11
                    have H1 : (some (0, 0, 2)) = some (r1, r2, r3) := by rw [if_pos rfl] at H; exact H
                    clear H
                    have H := H1
                    clear H1
                    simp only [Option.some.injEq, Prod.mk.injEq] at H
                    obtain ⟨rfl, rfl, rfl⟩ := H
                    go_wp2
                    go_ret3
                    exact ⟨by first | rfl | (simp; done) | (simp [*]; done), by repeat (first | exact Drawn0.refl _ | apply Drawn0.step)⟩
                  · replace c11 := Bool.eq_false_iff.mpr c11
                    subst c11
                    have H1 : (if (wrap64 (rd l0 x6_1)) < 128 then (some (wrap64 ((wrap64 (x5_1 * 128)) + (wrap64 (rd l0 x6_1))), wrap64 (x6_1 + 1), 0)) else (colloquyref01_Get.l0 kj5 l0 (wrap64 ((wrap64 ((wrap64 (x5_1 * 128)) + (wrap64 (rd l0 x6_1)))) - 128)) (wrap64 (x6_1 + 1)))) = some (r1, r2, r3) := by rw [if_neg (show ¬ (false = true) by decide)] at H; exact H
                    clear H
                    have H := H1
                    clear H1
                    by_cases c12 : (wrap64 (rd l0 x6_1)) < 128
                    · rw [if_pos c12] at H
                      have c12b0 : decide ((wrap64 (rd l0 x6_1)) < 128) = true := decide_eq_true c12
                      clear c12
                      simp only [Option.some.injEq, Prod.mk.injEq] at H
                      obtain ⟨rfl, rfl, rfl⟩ := H
                      go_wp2
                      go_ret3
                      exact ⟨by first | rfl | (simp; done) | (simp [*]; done), by repeat (first | exact Drawn0.refl _ | apply Drawn0.step)⟩
                    · rw [if_neg c12] at H
                      have c12b0 : decide ((wrap64 (rd l0 x6_1)) < 128) = false := decide_eq_false c12
                      clear c12
                      have H' := Aside0.mk H
                      clear H
                      go_wp2
                      go_roundg kj5
                      case measure => have := HK1.out; have := HJ5.out; omega
                      case rel => exact ⟨(wrap64 ((wrap64 ((wrap64 (x5_1 * 128)) + (wrap64 (rd l0 x6_1)))) - 128)), (wrap64 (x6_1 + 1)), (by first | rfl | (simp; done) | (simp [*]; done)), (by first | rfl | (simp; done) | (simp [*]; done)), H', ⟨by have := HK1.out; have := HJ5.out; omega⟩, by repeat (first | exact Drawn0.refl _ | apply Drawn0.step)⟩
            · rw [if_neg c5] at H
              exact absurd H (by simp)
          · rw [if_neg c4] at H
            exact absurd H (by simp)
      · rw [if_neg c2] at H
        have c2b0 : decide (x6_1 < 8) = false := decide_eq_false c2
        clear c2
        simp only [Option.some.injEq, Prod.mk.injEq] at H
        obtain ⟨rfl, rfl, rfl⟩ := H
        go_wp2
        go_ret3
        exact ⟨by first | rfl | (simp; done) | (simp [*]; done), by repeat (first | exact Drawn0.refl _ | apply Drawn0.step)⟩

-- NOT PRINTED: function 37 (colloquyref20_record)

-- NOT PRINTED: function 20 (colloquyref20_Open)

-- NOT PRINTED: function 21 (disk_Disk_Waiting)

-- NOT PRINTED: function 4 (colloquylaw20_WalOpens)

-- NOT PRINTED: function 23 (wal_Wal_Room)

-- NOT PRINTED: function 5 (colloquylaw20_WalRoom)

-- NOT PRINTED: function 6 (colloquylaw20_WalAgain)

/-! ### colloquylaw20_at: function 24 -/
def colloquylaw20_at.f (l0 : List (List Int)) (l1 : List (List Int)) (a2 : Int) : Option (List Int) := if a2 < (l0.length : Int) then (if 0 ≤ a2 then (some (rd_L1 l0 a2)) else (none)) else (if 0 ≤ (wrap64 (a2 - (l0.length : Int))) then (if (wrap64 (a2 - (l0.length : Int))) < (l1.length : Int) then (some (rd_L1 l1 (wrap64 (a2 - (l0.length : Int))))) else (none)) else (none))
set_option maxHeartbeats 8000000 in
set_option maxRecDepth 100000 in
theorem colloquylaw20_at.calls (P0_ : Nat → Prop) (A0 : Option Addr) (c0 : Nat) (l0 : List (List Int)) (P1_ : Nat → Prop) (A1 : Option Addr) (c1 : Nat) (l1 : List (List Int)) (a2 : Int) (r : List Int) (w : World) (hs0 : Kd.V (Kd.slice 5 (Kd.int .u8)) 28 w w.heap.size (fun k_ => P0_ k_) (.slice A0 l0.length c0) l0) (hs1 : Kd.V (Kd.slice 5 (Kd.int .u8)) 28 w w.heap.size (fun k_ => P1_ k_) (.slice A1 l1.length c1) l1) (h : colloquylaw20_at.f l0 l1 a2 = some r) :
    Calls Try.prog 24 #[.slice A0 l0.length c0, .slice A1 l1.length c1, .int .i64 a2] w fun e w' => ∃ v0_ : Value, e = .returned (v0_) ∧ Kd.V (Kd.int .u8) 5 w' w.heap.size (fun k_ => ((P0_ k_ ∨ P1_ k_) ∨ w.heap.size ≤ k_)) v0_ r ∧ Below w.heap.size w w' := by
  have HO0 := Aside0.mk (show Kd.V (Kd.slice 5 (Kd.int .u8)) 28 w w.heap.size (fun k_ => ((P0_ k_ ∨ P1_ k_) ∨ w.heap.size ≤ k_)) (.slice A0 l0.length c0) l0 from Kd.V_mono hs0 (fun k_ hk => .inl (.inl hk)))
  have HO1 := Aside0.mk (show Kd.V (Kd.slice 5 (Kd.int .u8)) 28 w w.heap.size (fun k_ => ((P0_ k_ ∨ P1_ k_) ∨ w.heap.size ≤ k_)) (.slice A1 l1.length c1) l1 from Kd.V_mono hs1 (fun k_ hk => .inl (.inr hk)))
  have HB := Aside0.mk (Below.refl w.heap.size w)
  have H : (if a2 < (l0.length : Int) then (if 0 ≤ a2 then (some (rd_L1 l0 a2)) else (none)) else (if 0 ≤ (wrap64 (a2 - (l0.length : Int))) then (if (wrap64 (a2 - (l0.length : Int))) < (l1.length : Int) then (some (rd_L1 l1 (wrap64 (a2 - (l0.length : Int))))) else (none)) else (none))) = some r := h
  clear h
  by_cases c4 : a2 < (l0.length : Int)
  · rw [if_pos c4] at H
    have c4b0 : decide (a2 < (l0.length : Int)) = true := decide_eq_true c4
    clear c4
    by_cases c5 : 0 ≤ a2
    · rw [if_pos c5] at H
      have c5b0 : decide (0 ≤ a2) = true := decide_eq_true c5
      clear c5
      obtain rfl := Option.some.inj H
      have p173 : 0 ≤ (a2 : Int) := of_decide_eq_true (by first | (with_reducible assumption) | assumption)
      have q173 : a2 < (l0.length : Int) := of_decide_eq_true (by first | (with_reducible assumption) | assumption)
      obtain ⟨ad173, A173_0, c173_0, e173, hx173_0, hl173_0, hi173_0⟩ := at_L1 (Kd.V_reads' HO0.out).2.2 a2 p173 q173
      cases e173
      obtain ⟨ce173, hce173, hMe173, hcc173⟩ := Kd.V_get HO0.out [] a2 p173 (by first | exact q173 | exact of_decide_eq_true (by first | (with_reducible assumption) | assumption) | (have e_ := (Kd.V_reads' HO0.out).1; omega))
      obtain ⟨ua173_0, uc173_0, rfl, ul173_0, ge173_0⟩ := Kd.FK_slice_open hMe173
      have hv173_0 := hcc173 0 _ rfl
      rw [Nat.add_zero, show ((Kd.slice 5 (Kd.int .u8))).sz = 1 from rfl, Nat.mul_one] at hv173_0
      replace hv173_0 := Option.some.inj (hv173_0.symm.trans hx173_0)
      injection hv173_0 with hva_ hvn_ hvc_
      rw [hva_] at ge173_0
      rw [hvc_] at ul173_0
      have HL173_0 := Aside0.mk (show Kd.V (Kd.int .u8) 5 _ w.heap.size _ _ (rd_L1 l0 a2) from Kd.V_mk ul173_0 ge173_0)
      clear hva_ hvn_ hvc_ ge173_0 ul173_0
      clear hcc173 hce173
      have HR173_0 := Aside0.mk hi173_0
      have HC173_0 := Aside0.mk hl173_0
      clear hi173_0 hl173_0
      replace p173 := eq_true p173
      replace q173 := eq_true q173
      go_enter Try.func24, Try.ntmps24
      go_wp2
      go_ret
      exact ⟨_, by first | rfl | (simp [errW_none, errW_some] <;> rfl) | (simp [*, errW_none, errW_some] <;> rfl), by (with_reducible repeat (first | apply Kd.V_alloc | apply Kd.V_drewN | apply Kd.V_drew)); exact HL173_0.out, by repeat (first | (with_reducible first | exact HB.out | apply below_alloc | apply pw_below_drewN | apply below_drew1) | exact HB.out)⟩
    · rw [if_neg c5] at H
      exact absurd H (by simp)
  · rw [if_neg c4] at H
    have c4b0 : decide (a2 < (l0.length : Int)) = false := decide_eq_false c4
    clear c4
    obtain ⟨ji6, hji6⟩ : ∃ j_ : Int, (wrap64 (a2 - (l0.length : Int))) = j_ := ⟨_, rfl⟩
    replace H : (if 0 ≤ (ji6) then (if (ji6) < (l1.length : Int) then (some (rd_L1 l1 (ji6))) else (none)) else (none)) = some r := by first | (rw [hji6] at H; exact H) | (simp only [hji6] at H ⊢; exact H)
    have hji6w : (IntKind.i64.wrap (a2 - (l0.length : Int))) = ji6 := (i64_w _).trans hji6
    by_cases c7 : 0 ≤ (ji6)
    · rw [if_pos c7] at H
      have c7b0 : decide (0 ≤ (ji6)) = true := decide_eq_true c7
      clear c7
      by_cases c8 : (ji6) < (l1.length : Int)
      · rw [if_pos c8] at H
        have c8b0 : decide ((ji6) < (l1.length : Int)) = true := decide_eq_true c8
        clear c8
        obtain rfl := Option.some.inj H
        have p174 : 0 ≤ ((ji6) : Int) := of_decide_eq_true (by first | (with_reducible assumption) | assumption)
        have q174 : (ji6) < (l1.length : Int) := of_decide_eq_true (by first | (with_reducible assumption) | assumption)
        obtain ⟨ad174, A174_0, c174_0, e174, hx174_0, hl174_0, hi174_0⟩ := at_L1 (Kd.V_reads' HO1.out).2.2 (ji6) p174 q174
        cases e174
        obtain ⟨ce174, hce174, hMe174, hcc174⟩ := Kd.V_get HO1.out [] (ji6) p174 (by first | exact q174 | exact of_decide_eq_true (by first | (with_reducible assumption) | assumption) | (have e_ := (Kd.V_reads' HO1.out).1; omega))
        obtain ⟨ua174_0, uc174_0, rfl, ul174_0, ge174_0⟩ := Kd.FK_slice_open hMe174
        have hv174_0 := hcc174 0 _ rfl
        rw [Nat.add_zero, show ((Kd.slice 5 (Kd.int .u8))).sz = 1 from rfl, Nat.mul_one] at hv174_0
        replace hv174_0 := Option.some.inj (hv174_0.symm.trans hx174_0)
        injection hv174_0 with hva_ hvn_ hvc_
        rw [hva_] at ge174_0
        rw [hvc_] at ul174_0
        have HL174_0 := Aside0.mk (show Kd.V (Kd.int .u8) 5 _ w.heap.size _ _ (rd_L1 l1 (ji6)) from Kd.V_mk ul174_0 ge174_0)
        clear hva_ hvn_ hvc_ ge174_0 ul174_0
        clear hcc174 hce174
        have HR174_0 := Aside0.mk hi174_0
        have HC174_0 := Aside0.mk hl174_0
        clear hi174_0 hl174_0
        replace p174 := eq_true p174
        replace q174 := eq_true q174
        go_enter Try.func24, Try.ntmps24
        go_wp2
        go_ret
        exact ⟨_, by first | rfl | (simp [errW_none, errW_some] <;> rfl) | (simp only [← hji6]; first | rfl | (simp [errW_none, errW_some] <;> rfl)) | (simp [*, errW_none, errW_some] <;> rfl), by (with_reducible repeat (first | apply Kd.V_alloc | apply Kd.V_drewN | apply Kd.V_drew)); exact HL174_0.out, by repeat (first | (with_reducible first | exact HB.out | apply below_alloc | apply pw_below_drewN | apply below_drew1) | exact HB.out)⟩
      · rw [if_neg c8] at H
        exact absurd H (by simp)
    · rw [if_neg c7] at H
      exact absurd H (by simp)

-- NOT PRINTED: function 26 (disk_Disk_Crash)

-- NOT PRINTED: function 7 (colloquylaw20_WalKeeps)

end Go.Proofs.Ytoafbpbnlmcklaa.PAll
