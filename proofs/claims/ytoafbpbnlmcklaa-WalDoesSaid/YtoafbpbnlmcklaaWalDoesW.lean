/- WalDoes over the log, and the reference's, in memory. Printed by wip/tools/genwaldoes.py. -/
import Derived.Test.YtoafbpbnlmcklaaMRefB
import Derived.Test.YtoafbpbnlmcklaaPAllx4
import Derived.StillTailTactics
namespace Go.Proofs.Ytoafbpbnlmcklaa.PAll
open Go.RowKit Go.Proofs.YtoafbpbnlmcklaaW.PrintWords Go.Proofs.YtoafbpbnlmcklaaW.PrintLast Go.Proofs.YtoafbpbnlmcklaaW.PrintMore Go.Proofs.Ytoafbpbnlmcklaa.Pure
set_option linter.unusedVariables false
set_option linter.unusedSimpArgs false
theorem few_l0 (l : List S56) (hl : l.length ≤ 30) : ∀ k j : Nat, j ≤ l.length → l.length < j + k → ∃ b, colloquylaw20_few.l0 k l (j : Int) = some b
  | 0, j, h1, h2 => by omega
  | k + 1, j, h1, h2 => by
    unfold colloquylaw20_few.l0
    by_cases c : j < l.length
    · rw [if_pos (by omega), if_pos (by omega)]
      by_cases c1 : ((rd_T56 l (j : Int)).f1.length : Int) > 1100
      · rw [if_pos c1]; exact ⟨false, rfl⟩
      · rw [if_neg c1]
        by_cases c2 : ((rd_T56 l (j : Int)).f2.length : Int) > 100
        · rw [if_pos c2]; exact ⟨false, rfl⟩
        · rw [if_neg c2, widx (by omega)]
          exact few_l0 l hl k (j + 1) (by omega) (by omega)
    · rw [if_neg (by omega)]
      exact ⟨true, rfl⟩
theorem few_total (l : List S56) : ∃ b, colloquylaw20_few.f 32 l = some b ∧ (b = true → l.length ≤ 30) := by
  unfold colloquylaw20_few.f
  by_cases c : (l.length : Int) > 30
  · rw [if_pos c]; exact ⟨false, rfl, fun h => by cases h⟩
  · rw [if_neg c]
    obtain ⟨b, hb⟩ := few_l0 l (by omega) 32 0 (by omega) (by omega)
    exact ⟨b, hb, fun _ => by omega⟩
theorem RefAt.dtouch {base D gS cW base2 D2 : Nat} {A : Option Addr} {vS vW : Value} {S S2 : List (List Int)} {W W2 : List (Int × List Int)} {w w' : World} (hr : RefAt base2 D2 vS vW S2 W2 w) (h : DiskAt base D gS A cW S W w) (ht : TouchP (InD D gS A) w w') : RefAt base2 D2 vS vW S2 W2 w' :=
  hr.move (fun k cells q hq hh => ht.block k (blk_lt hh) (fun hi => by
    obtain ⟨_, cs', t', ht2, hh'⟩ := h.inD hi
    have := blk_type hh hh'
    rcases ht2 with rfl | rfl | rfl <;> rcases hq with rfl | rfl | rfl | rfl <;> exact absurd this (by decide)))
theorem inD_inR {base D gS cW base2 D2 : Nat} {A : Option Addr} {vS vW : Value} {S S2 : List (List Int)} {W W2 : List (Int × List Int)} {w : World} (hr : RefAt base2 D2 vS vW S2 W2 w) (h : DiskAt base D gS A cW S W w) {k : Nat} (h1 : InD D gS A k) (h2 : InR D2 vS vW k) : False := by
  obtain ⟨_, cs, t, ht, hh⟩ := h.inD h1
  obtain ⟨_, cs', t', ht', hh'⟩ := hr.inR h2
  have := blk_type hh hh'
  rcases ht with rfl | rfl | rfl <;> rcases ht' with rfl | rfl | rfl <;> exact absurd this (by decide)
theorem rd_T56_mem {l : List S56} {j : Nat} (h : j < l.length) : rd_T56 l (j : Int) ∈ l := by
  unfold rd_T56
  rw [Int.toNat_natCast, List.getD_eq_getElem?_getD, List.getElem?_eq_getElem h, Option.getD_some]
  exact List.getElem_mem h
set_option maxHeartbeats 32000000 in
set_option maxRecDepth 100000 in
theorem WalDoes_out1 (n : Int) (A0 : Option Addr) (c0 : Nat) (l : List S56) (w : World) (hr0 : Kd.C k56 w A0 l.length l) (hc0 : l.length ≤ c0) (hf : colloquylaw20_few.f 32 l = some false) : Calls Try.prog 8 #[.int .i64 n, .slice A0 l.length c0] w fun x w' => x = .returned (.bool true) ∧ Below w.heap.size w w' := by
  have HR0 := Aside0.mk hr0
  have HF := Aside0.mk hf
  clear hr0 hf
  go_enter Try.func8, Try.ntmps8
  go_wp2_with fail
  refine (awake_walk w).mono ?_
  rintro x w1 ⟨rfl, hb1⟩
  have HB1 := Aside0.mk hb1
  clear hb1
  go_wp2_with fail
  refine (colloquylaw20_few.calls 32 A0 c0 l false w1 (Kd.C_below HR0.out HB1.out) hc0 HF.out).mono ?_
  rintro x w1' ⟨rfl, ⟨q2, hw2⟩⟩
  have HB1' := Aside0.mk (show Below w.heap.size w w1' by rw [hw2]; exact pw_below_drewN HB1.out _)
  clear hw2 HB1
  go_wp2_with fail
  refine (new_tot n w1').mono ?_
  rintro x w2 ⟨D, gS, rfl, hd2, hb2⟩
  have HD2 := Aside0.mk (hd2.lower HB1'.out.size)
  have HB2 := Aside0.mk (below_then HB1'.out HB1'.out.size hb2)
  clear hd2 hb2 HB1'
  go_wp2
  go_ret
  exact ⟨rfl, HB2.out⟩
set_option maxHeartbeats 32000000 in
set_option maxRecDepth 100000 in
theorem WalDoes_out2 (n : Int) (A0 : Option Addr) (c0 : Nat) (l : List S56) (w : World) (hr0 : Kd.C k56 w A0 l.length l) (hc0 : l.length ≤ c0) (hf : colloquylaw20_few.f 32 l = some true) (hn : 100 < n) : Calls Try.prog 8 #[.int .i64 n, .slice A0 l.length c0] w fun x w' => x = .returned (.bool true) ∧ Below w.heap.size w w' := by
  have g1 : decide (n > (100 : Int)) = true := decide_eq_true (by omega)
  clear hn
  have HR0 := Aside0.mk hr0
  have HF := Aside0.mk hf
  clear hr0 hf
  go_enter Try.func8, Try.ntmps8
  go_wp2_with fail
  refine (awake_walk w).mono ?_
  rintro x w1 ⟨rfl, hb1⟩
  have HB1 := Aside0.mk hb1
  clear hb1
  go_wp2_with fail
  refine (colloquylaw20_few.calls 32 A0 c0 l true w1 (Kd.C_below HR0.out HB1.out) hc0 HF.out).mono ?_
  rintro x w1' ⟨rfl, ⟨q2, hw2⟩⟩
  have HB1' := Aside0.mk (show Below w.heap.size w w1' by rw [hw2]; exact pw_below_drewN HB1.out _)
  clear hw2 HB1
  go_wp2_with fail
  refine (new_tot n w1').mono ?_
  rintro x w2 ⟨D, gS, rfl, hd2, hb2⟩
  have HD2 := Aside0.mk (hd2.lower HB1'.out.size)
  have HB2 := Aside0.mk (below_then HB1'.out HB1'.out.size hb2)
  clear hd2 hb2 HB1'
  go_wp2
  go_ret
  exact ⟨rfl, HB2.out⟩
set_option maxHeartbeats 32000000 in
set_option maxRecDepth 100000 in
theorem WalDoes_in (n : Int) (A0 : Option Addr) (c0 : Nat) (l : List S56) (w : World) (hr0 : Kd.C k56 w A0 l.length l) (hc0 : l.length ≤ c0) (hf : colloquylaw20_few.f 32 l = some true) (hn : n ≤ 100) (hl : l.length ≤ 30) (hbs : ∀ o ∈ l, Bs o.f1) : Calls Try.prog 8 #[.int .i64 n, .slice A0 l.length c0] w fun x w' => x = .returned (.bool true) ∧ Below w.heap.size w w' := by
  have g1 : decide (n > (100 : Int)) = false := decide_eq_false (by omega)
  have HM := Aside0.mk (clampN_100 hn)
  have HL := Aside0.mk hl
  have HBS := Aside0.mk hbs
  clear hn hl hbs
  have HR0 := Aside0.mk hr0
  have HF := Aside0.mk hf
  clear hr0 hf
  go_enter Try.func8, Try.ntmps8
  go_wp2_with fail
  refine (awake_walk w).mono ?_
  rintro x w1 ⟨rfl, hb1⟩
  have HB1 := Aside0.mk hb1
  clear hb1
  go_wp2_with fail
  refine (colloquylaw20_few.calls 32 A0 c0 l true w1 (Kd.C_below HR0.out HB1.out) hc0 HF.out).mono ?_
  rintro x w1' ⟨rfl, ⟨q2, hw2⟩⟩
  have HB1' := Aside0.mk (show Below w.heap.size w w1' by rw [hw2]; exact pw_below_drewN HB1.out _)
  clear hw2 HB1
  go_wp2_with fail
  refine (new_tot n w1').mono ?_
  rintro x w2 ⟨D, gS, rfl, hd2, hb2⟩
  have HD2 := Aside0.mk (hd2.lower HB1'.out.size)
  have HB2 := Aside0.mk (below_then HB1'.out HB1'.out.size hb2)
  clear hd2 hb2 HB1'
  go_wp2_with fail
  refine (refnew_tot n w2).mono ?_
  rintro x w4 ⟨AS, cS, rfl, hr4, hb4⟩
  have HD4 := Aside0.mk (HD2.out.below hb4)
  have HR4 := Aside0.mk (hr4.lower HB2.out.size)
  have HB4 := Aside0.mk (below_then HB2.out HB2.out.size hb4)
  obtain ⟨D2, hD2⟩ : ∃ D2, D2 = w2.heap.size := ⟨_, rfl⟩
  rw [← hD2] at HR4 ⊢
  clear hr4 hb4 HD2 HB2 hD2
  obtain ⟨m, hm⟩ : ∃ m, m = clampN n := ⟨_, rfl⟩
  rw [← hm] at HD4 HR4 HM
  clear hm
  obtain ⟨S0, hS0⟩ : ∃ S, S = List.replicate m zeroS := ⟨_, rfl⟩
  have HP0 := Aside0.mk (show Parts m 0 S0 [] by rw [hS0]; exact Parts.new m)
  have HBS0 := Aside0.mk (show ∀ s ∈ S0, Bs s from fun s hs => (by rw [hS0] at hs; rw [List.eq_of_mem_replicate hs]; exact zeroS_bs))
  rw [← hS0] at HD4 HR4
  clear hS0
  go_wp2_with fail
  refine (loose_open0 w.heap.size D gS m 0 0 none S0 [] w4 HD4.out HP0.out HBS0.out (by simp) (by have := HM.out; omega) (by omega)).mono ?_
  rintro x wo5 ⟨Wbo, vLo, Ao, cWo, rfl, hl5, ht5, hg5⟩
  have HLo := Aside0.mk hl5
  have HRo5 := Aside0.mk (RefAt.dtouch HR4.out HD4.out ht5)
  have HBo5 := Aside0.mk (ht5.bel HB4.out (HD4.out).base.2.2.2 (fun k hk => ((HD4.out).inD hk).1))
  have HAPo := Aside0.mk (show ∀ k, PL D gS Ao Wbo vLo k → ¬ InR D2 (.slice AS m cS) (.slice none 0 0) k from fun k h1 h2 => by
    rcases hg5 k h1 with g | g
    · exact inD_inR HR4.out HD4.out g h2
    · have := (HR4.out).lt h2; omega)
  clear hl5 ht5 hg5
  go_wp2_with fail
  refine (rl_open w.heap.size D2 m 0 cS AS (.slice none 0 0) S0 [] wo5 HRo5.out HP0.out HBS0.out (by simp) (by have := HM.out; omega) (by omega)).mono ?_
  rintro x wo6 ⟨Wb2o, vL2o, rfl, hr6, ht6, hg6⟩
  have HRy := Aside0.mk hr6
  have HLy := Aside0.mk (HLo.out.apart ht6 HAPo.out (fun k cells hc hi => inR_5 HRo5.out k cells hi hc))
  have HBy := Aside0.mk (ht6.bel HBo5.out HLo.out.size (fun k hk => (HRo5.out.inR hk).1))
  have HAy := Aside0.mk (show ∀ k, PL D gS Ao Wbo vLo k → ¬ PR D2 m AS cS (.slice none 0 0) Wb2o vL2o k from fun k h1 h2 => by
    rcases hg6 k h2 with g | g
    · exact HAPo.out k h1 g
    · have := HLo.out.lt h1; omega)
  clear hr6 ht6 hg6 HLo HRo5 HBo5 HAPo
  go_wp2
  go_loopg [9, 10, 11] l.length (fun kq v9 v10 v11 w' => ∃ (j q u Wb Wb2 : Nat) (S : List (List Int)) (W : List (Int × List Int)) (L : List (List Int)) (A : Option Addr) (cW : Nat) (vL vW vL2 : Value), v9 = .pointer (some ⟨Wb, 0, none⟩) ∧ v10 = .pointer (some ⟨Wb2, 0, none⟩) ∧ v11 = .int .i64 (j : Int) ∧ Aside0 (j + kq = l.length) ∧ Aside0 (q ≤ 2000 * j) ∧ Aside0 (Loose w.heap.size D gS m q Wb u A cW vL S W L w') ∧ Aside0 (RLoose w.heap.size D2 m Wb2 u AS cS vW vL2 S W L w') ∧ Aside0 (∀ k, PL D gS A Wb vL k → ¬ PR D2 m AS cS vW Wb2 vL2 k) ∧ Aside0 (Below w.heap.size w w'))
  case atStart => exact ⟨0, 0, _, _, _, _, _, _, _, _, _, _, _, rfl, rfl, rfl, ⟨by omega⟩, ⟨by omega⟩, HLy, HRy, HAy, HBy⟩
  case round =>
    obtain ⟨j, q, u, Wb, Wb2, S, W, L, A, cW, vL, vW, vL2, rfl, rfl, rfl, HJ, HQ, HLo, HRo, HAp, HB⟩ := hrel
    by_cases hlt : j < l.length
    · obtain ⟨ad, AB, cB, AK, cK, e, hx0, hx1, hx2, hx3, hx4, hlB, hiB, hlK, hiK⟩ := at_T56 HR0.out (j : Int) (by omega) (by omega)
      cases e
      obtain ⟨o, ho⟩ : ∃ o, o = rd_T56 l (j : Int) := ⟨_, rfl⟩
      have HOB := Aside0.mk (show Bs o.f1 by rw [ho]; exact HBS.out _ (rd_T56_mem hlt))
      rw [← ho] at hx0 hx1 hx2 hx3 hx4 hlB hiB hlK hiK
      rw [Int.toNat_natCast] at hx0 hx1 hx2 hx3 hx4
      have HX1 := Aside0.mk hx1
      have HX2 := Aside0.mk hx2
      have HX3 := Aside0.mk hx3
      have HX4 := Aside0.mk hx4
      have HIB := Aside0.mk hiB
      have HLB0 := Aside0.mk hlB
      have HIK := Aside0.mk hiK
      have HLT := Aside0.mk hlt
      replace hx0 := kfact hx0 HB.out
      clear ho hx1 hx2 hx3 hx4 hlB hiB hlK hiK
      have p1 : decide ((j : Int) < (l.length : Int)) = true := decide_eq_true (by omega)
      have p2 := eq_true (show 0 ≤ (j : Int) by omega)
      have p3 := eq_true (show (j : Int) < (l.length : Int) by omega)
      have HQ9 := Aside0.mk (show q ≤ 800000 by have := HQ.out; have := HLT.out; have := HL.out; omega)
      obtain ⟨k1, rfl⟩ : ∃ k1, gk = k1 + 1 := ⟨gk - 1, by have := HJ.out; omega⟩
      clear hlt
      by_cases ck : o.f0 = 0
      · have ckb : (o.f0 == 0) = true := beq_iff_eq.mpr ck
        clear ck
        have y1 := kfact HX1.out HB.out
        go_wp2_with fail
        refine (loose_append w.heap.size D gS m q Wb u cW A vL S W L o.f1 AB o.f1.length cB wr (fun k => k < w.heap.size) HLo.out (by have := HM.out; omega) (by have := HQ9.out; omega) (argF HIB.out HB.out) (fun k hk => HLo.out.okB k hk) HLB0.out HOB.out).mono ?_
        rintro x w5 ⟨rfl, A5, cW5, vL5, hl5, ht5, hg5⟩
        have HL5 := Aside0.mk hl5
        have HR5 := Aside0.mk (HRo.out.apart ht5 (fun k h1 h2 => HAp.out k h2 h1) (fun k cells hc => HLo.out.ok5 k cells hc))
        have HB5 := Aside0.mk (HLo.out.bel ht5 HB.out (Nat.le_refl _))
        have HA5 := Aside0.mk (show ∀ k, PL D gS A5 Wb vL5 k → ¬ PR D2 m AS cS vW Wb2 vL2 k from fun k h1 h2 => by
          rcases hg5 k h1 with g | g
          · exact HAp.out k g h2
          · have := HRo.out.lt h2; omega)
        clear hl5 ht5 hg5 y1
        have y1 := kfact HX1.out HB5.out
        go_wp2_with fail
        refine (rl_append w.heap.size D2 m q Wb2 u cS AS AB vW vL2 S W L o.f1 o.f1.length cB w5 (fun k => k < w.heap.size) HR5.out HLo.out.p HLo.out.le HLo.out.len (by have := HM.out; omega) (by have := HQ9.out; omega) (argF HIB.out HB5.out) (fun k hk => HR5.out.okB k hk) HLB0.out).mono ?_
        rintro x w6 ⟨rfl, vW6, vL6, hr6, ht6, hg6⟩
        have HR6 := Aside0.mk hr6
        have HL6 := Aside0.mk (HL5.out.apart ht6 (fun k h1 h2 => HA5.out k h1 h2) (fun k cells hc => HR5.out.ok5 k cells hc))
        have HB6 := Aside0.mk (HR5.out.bel ht6 HB5.out (Nat.le_refl _))
        have HA6 := Aside0.mk (show ∀ k, PL D gS A5 Wb vL5 k → ¬ PR D2 m AS cS vW6 Wb2 vL6 k from fun k h1 h2 => by
          rcases hg6 k h2 with g | g
          · exact HA5.out k h1 g
          · have := HL5.out.lt h1; omega)
        clear hr6 ht6 hg6 y1
        obtain ⟨AL2, cL2, eL2⟩ := Kd.R_slice HR6.out.l.rs
        obtain ⟨nL2, hnL2⟩ : ∃ nL2, nL2 = ((appL m u L o.f1) : List (List Int)).length := ⟨_, rfl⟩
        rw [← hnL2] at eL2
        have HNL2 := Aside0.mk hnL2
        subst eL2
        clear hnL2
        have HLn := Aside0.mk (show ((appL m u L o.f1) : List (List Int)).length ≤ 1000000 by have := HL6.out.len; have := HL6.out.le; have := HM.out; omega)
        obtain ⟨ks, hks⟩ := same_k ((appL m u L o.f1)) (by have := HLn.out; omega)
        have HKS := Aside0.mk hks
        clear hks
        go_wp2_with fail
        refine wp_region_held (S := fun U => U.cell? ⟨Wb2, 1, none⟩ = some (.slice AL2 nL2 cL2)) none [1, 6, 7] [0, 2, 3, 4, 5, 1, 6, 7] (by kernel_rfl) rfl (by kernel_rfl) (by kernel_rfl) ((blk_cell (blk_drew HR6.out.l.blk) 1).trans rfl) (fun hHeld => ?_)
        refine held_read (i := 0) (N := (some 116)) (v := ?_) (a' := ?_) rfl rfl rfl (fun _ _ _ h => h) (Or.inl ⟨by rfl, ?_⟩) ?_ ?_
        rotate_left
        · intro w' hS
          go_simp
          with_reducible rfl
        rotate_left
        · simp only [Act.put, List.setIfInBounds_toArray, List.set_cons_zero, List.set_cons_succ, Go.Proofs.YtoafbpbnlmcklaaW.PrintLast.i64_w, Go.Proofs.YtoafbpbnlmcklaaW.PrintLast.i32_w]
          rfl
        refine held_read (i := 2) (N := (some 118)) (v := ?_) (a' := ?_) rfl rfl rfl (fun _ _ _ h => h) (Or.inl ⟨by rfl, ?_⟩) ?_ ?_
        rotate_left
        · intro w' hS
          go_simp
          with_reducible rfl
        rotate_left
        · simp only [Act.put, List.setIfInBounds_toArray, List.set_cons_zero, List.set_cons_succ, Go.Proofs.YtoafbpbnlmcklaaW.PrintLast.i64_w, Go.Proofs.YtoafbpbnlmcklaaW.PrintLast.i32_w]
          rfl
        refine held_read (i := 3) (N := (some 119)) (v := ?_) (a' := ?_) rfl rfl rfl (fun _ _ _ h => h) (Or.inl ⟨by rfl, ?_⟩) ?_ ?_
        rotate_left
        · intro w' hS
          go_simp
          with_reducible rfl
        rotate_left
        · simp only [Act.put, List.setIfInBounds_toArray, List.set_cons_zero, List.set_cons_succ, Go.Proofs.YtoafbpbnlmcklaaW.PrintLast.i64_w, Go.Proofs.YtoafbpbnlmcklaaW.PrintLast.i32_w]
          rfl
        refine held_read (i := 4) (N := (some 120)) (v := ?_) (a' := ?_) rfl rfl rfl (fun _ _ _ h => h) (Or.inl ⟨by rfl, ?_⟩) ?_ ?_
        rotate_left
        · intro w' hS
          go_simp
          with_reducible rfl
        rotate_left
        · simp only [Act.put, List.setIfInBounds_toArray, List.set_cons_zero, List.set_cons_succ, Go.Proofs.YtoafbpbnlmcklaaW.PrintLast.i64_w, Go.Proofs.YtoafbpbnlmcklaaW.PrintLast.i32_w]
          rfl
        refine held_read (i := 5) (N := (some 121)) (v := ?_) (a' := ?_) rfl rfl rfl (fun _ _ _ h => h) (Or.inl ⟨by rfl, ?_⟩) ?_ ?_
        rotate_left
        · intro w' hS
          go_simp
          with_reducible rfl
        rotate_left
        · simp only [Act.put, List.setIfInBounds_toArray, List.set_cons_zero, List.set_cons_succ, Go.Proofs.YtoafbpbnlmcklaaW.PrintLast.i64_w, Go.Proofs.YtoafbpbnlmcklaaW.PrintLast.i32_w]
          rfl
        refine held_run (i := 1) (N := (some 117)) rfl rfl rfl (fun K hK => ?_)
        refine Go.Proofs.YtoafbpbnlmcklaaW.PrintLast.goes_ Try.func17 (by kernel_rfl) rfl #[.pointer (some ⟨Wb, 0, none⟩)] (by rfl) rfl rfl (by first | done | rfl | (simp only [List.map_toArray, List.map_cons, List.map_nil]; first | done | rfl)) ?_
        refine (records_walk 66 w.heap.size Wb D (appU m u o.f1) vL5 (appL m u L o.f1) w6.drew (HL6.out.l.below (below_drew (Below.refl _ _))) HLn.out HL6.out.few).mono ?_
        rintro x wA ⟨vA, rfl, hoA, hbA⟩
        refine ⟨_, rfl, ?_⟩
        refine hK.out _ _ ((blk_cell (blk_below (blk_drew HR6.out.l.blk) hbA) 1).trans rfl) ?_
        clear hK K
        refine held_norm (a' := ?_) ?_ ?_
        rotate_left
        · simp only [Act.put, List.setIfInBounds_toArray, List.set_cons_zero, List.set_cons_succ, Go.Proofs.YtoafbpbnlmcklaaW.PrintLast.i64_w, Go.Proofs.YtoafbpbnlmcklaaW.PrintLast.i32_w]
          rfl
        have HA := Aside0.mk (show Below w6.heap.size w6 wA from below_then (below_drew (Below.refl _ _)) (Nat.le_refl _) hbA)
        obtain ⟨AA, cA, eA⟩ := Kd.R_slice hoA
        rw [← HNL2.out] at eA
        subst eA
        have HXA := Aside0.mk (Kd.R_reads' hoA)
        have HXB := Aside0.mk (Kd.R_reads' (Kd.R_below HR6.out.l.rs HA.out))
        clear hoA hbA
        refine held_run (i := 6) (N := (some 122)) rfl rfl rfl (fun K hK => ?_)
        refine Go.Proofs.YtoafbpbnlmcklaaW.PrintLast.goes_ Try.func16 (by kernel_rfl) rfl #[.slice AA nL2 cA, .slice AL2 nL2 cL2] (by rfl) rfl rfl (by first | done | rfl | (simp only [List.map_toArray, List.map_cons, List.map_nil]; first | done | rfl)) ?_
        refine (calls_of_args (by rw [← HNL2.out]) (colloquyref20_Same.calls ks AA cA (appL m u L o.f1) AL2 cL2 (appL m u L o.f1) true wA HXA.out.2.2 (by rw [← HNL2.out]; exact HXA.out.2.1) HXB.out.2.2 (by rw [← HNL2.out]; exact HXB.out.2.1) HKS.out)).mono ?_
        rintro x wB ⟨rfl, ⟨qB, hwB⟩⟩
        refine ⟨_, rfl, ?_⟩
        refine hK.out _ _ (by rw [hwB]; exact (blk_cell (blk_below (blk_below HR6.out.l.blk HA.out) (pw_below_drewN (Below.refl _ _) _)) 1).trans rfl) ?_
        clear hK K
        refine held_norm (a' := ?_) ?_ ?_
        rotate_left
        · simp only [Act.put, List.setIfInBounds_toArray, List.set_cons_zero, List.set_cons_succ, Go.Proofs.YtoafbpbnlmcklaaW.PrintLast.i64_w, Go.Proofs.YtoafbpbnlmcklaaW.PrintLast.i32_w]
          rfl
        have HBB := Aside0.mk (show Below w6.heap.size w6 wB by rw [hwB]; exact pw_below_drewN HA.out _)
        clear hwB
        refine held_run (i := 7) (N := (some 14)) rfl rfl rfl (fun K hK => ?_)
        go_simp
        refine hK.out _ _ ((blk_cell (blk_below HR6.out.l.blk HBB.out) 1).trans rfl) ?_
        clear hK K
        refine held_done ?_
        have HLB := Aside0.mk (HL6.out.below HBB.out)
        have HRB := Aside0.mk (HR6.out.below HBB.out)
        have HBz := Aside0.mk (below_then HB6.out HB6.out.size HBB.out)
        have qv2 := blk_cell HRB.out.l.blk 2
        obtain ⟨A8, c8, e8⟩ := rw_slice HRB.out.d
        have qr1 : wB.cell? ⟨D2, 1, none⟩ = some (.slice A8 ((appW m u W o.f1) : List (Int × List Int)).length c8) := by rw [← e8]; exact (blk_cell HRB.out.d.blk 1).trans rfl
        go_wp2_with fail
        go_quiet (first | (go_at_call 13; exact Calls.quiet_of_same (used_walk 66 w.heap.size Wb D (appU m u o.f1) vL5 (appL m u L o.f1) _ (HLB.out.l.below (pw_below_drewN (Below.refl _ _) _)))) | (go_at_call 21; exact Calls.quiet_of_same (waiting_walk w.heap.size D gS _ _ S (appW m u W o.f1) _ (HLB.out.d.below (pw_below_drewN (Below.refl _ _) _)))))
        clear qv2 qr1
        obtain ⟨wq, hwq⟩ : ∃ wq, wq = wB.drewN nq := ⟨_, rfl⟩
        have HLq := Aside0.mk (show Loose w.heap.size D gS m (q + 2000) Wb (appU m u o.f1) A5 cW5 vL5 S (appW m u W o.f1) (appL m u L o.f1) wq by rw [hwq]; exact HLB.out.below (pw_below_drewN (Below.refl _ _) _))
        have HRq := Aside0.mk (show RLoose w.heap.size D2 m Wb2 (appU m u o.f1) AS cS vW6 _ S (appW m u W o.f1) (appL m u L o.f1) wq by rw [hwq]; exact HRB.out.below (pw_below_drewN (Below.refl _ _) _))
        have HBq := Aside0.mk (show Below w.heap.size w wq by rw [hwq]; exact pw_below_drewN HBz.out _)
        rw [← hwq]
        clear hwq
        go_wp2_with fail
        go_roundg k1
        case measure => omega
        case rel =>
          refine ⟨j + 1, (q + 2000), _, _, _, _, _, _, _, _, _, _, _, rfl, rfl, ?_, ⟨by have := HJ.out; omega⟩, ⟨by have := HQ.out; omega⟩, HLq, HRq, HA6, HBq⟩
          exact congrArg (Value.int .i64) (widx (by have := HLT.out; have := HL.out; omega))
      have ckb : (o.f0 == 0) = false := beq_eq_false_iff_ne.mpr ck
      clear ck
      by_cases ck : o.f0 = 1
      · have ckc : (o.f0 == 1) = true := beq_iff_eq.mpr ck
        clear ck
        go_wp2_with fail
        refine (loose_sync w.heap.size D gS m q Wb u cW A vL S W L wr HLo.out (by have := HQ9.out; omega)).mono ?_
        rintro x w5 ⟨rfl, hl5, ht5⟩
        have HL5 := Aside0.mk hl5
        have HR5 := Aside0.mk (HRo.out.apart ht5 (fun k h1 h2 => HAp.out k h2 h1) (fun k cells hc => HLo.out.ok5 k cells hc))
        have HB5 := Aside0.mk (HLo.out.bel ht5 HB.out (Nat.le_refl _))
        clear hl5 ht5
        go_wp2_with fail
        refine (rl_sync w.heap.size D2 m q Wb2 u cS AS vW vL2 S W L w5 HR5.out HLo.out.p (by have := HQ9.out; omega)).mono ?_
        rintro x w6 ⟨rfl, hr6, ht6⟩
        have HR6 := Aside0.mk hr6
        have HL6 := Aside0.mk (HL5.out.apart ht6 (fun k h1 h2 => HAp.out k h1 h2) (fun k cells hc => HR5.out.ok5 k cells hc))
        have HB6 := Aside0.mk (HR5.out.bel ht6 HB5.out (Nat.le_refl _))
        have HA6 := Aside0.mk (show ∀ k, PL D gS A Wb vL k → ¬ PR D2 m AS cS (.slice none 0 0) Wb2 vL2 k from fun k h1 h2 => HAp.out k h1 (by
          rcases h2 with h2 | h2
          · exact .inl (InR_nil h2)
          · exact .inr h2))
        clear hr6 ht6
        obtain ⟨AL2, cL2, eL2⟩ := Kd.R_slice HR6.out.l.rs
        obtain ⟨nL2, hnL2⟩ : ∃ nL2, nL2 = (L : List (List Int)).length := ⟨_, rfl⟩
        rw [← hnL2] at eL2
        have HNL2 := Aside0.mk hnL2
        subst eL2
        clear hnL2
        have HLn := Aside0.mk (show (L : List (List Int)).length ≤ 1000000 by have := HL6.out.len; have := HL6.out.le; have := HM.out; omega)
        obtain ⟨ks, hks⟩ := same_k (L) (by have := HLn.out; omega)
        have HKS := Aside0.mk hks
        clear hks
        go_wp2_with fail
        refine wp_region_held (S := fun U => U.cell? ⟨Wb2, 1, none⟩ = some (.slice AL2 nL2 cL2)) none [1, 6, 7] [0, 2, 3, 4, 5, 1, 6, 7] (by kernel_rfl) rfl (by kernel_rfl) (by kernel_rfl) ((blk_cell (blk_drew HR6.out.l.blk) 1).trans rfl) (fun hHeld => ?_)
        refine held_read (i := 0) (N := (some 116)) (v := ?_) (a' := ?_) rfl rfl rfl (fun _ _ _ h => h) (Or.inl ⟨by rfl, ?_⟩) ?_ ?_
        rotate_left
        · intro w' hS
          go_simp
          with_reducible rfl
        rotate_left
        · simp only [Act.put, List.setIfInBounds_toArray, List.set_cons_zero, List.set_cons_succ, Go.Proofs.YtoafbpbnlmcklaaW.PrintLast.i64_w, Go.Proofs.YtoafbpbnlmcklaaW.PrintLast.i32_w]
          rfl
        refine held_read (i := 2) (N := (some 118)) (v := ?_) (a' := ?_) rfl rfl rfl (fun _ _ _ h => h) (Or.inl ⟨by rfl, ?_⟩) ?_ ?_
        rotate_left
        · intro w' hS
          go_simp
          with_reducible rfl
        rotate_left
        · simp only [Act.put, List.setIfInBounds_toArray, List.set_cons_zero, List.set_cons_succ, Go.Proofs.YtoafbpbnlmcklaaW.PrintLast.i64_w, Go.Proofs.YtoafbpbnlmcklaaW.PrintLast.i32_w]
          rfl
        refine held_read (i := 3) (N := (some 119)) (v := ?_) (a' := ?_) rfl rfl rfl (fun _ _ _ h => h) (Or.inl ⟨by rfl, ?_⟩) ?_ ?_
        rotate_left
        · intro w' hS
          go_simp
          with_reducible rfl
        rotate_left
        · simp only [Act.put, List.setIfInBounds_toArray, List.set_cons_zero, List.set_cons_succ, Go.Proofs.YtoafbpbnlmcklaaW.PrintLast.i64_w, Go.Proofs.YtoafbpbnlmcklaaW.PrintLast.i32_w]
          rfl
        refine held_read (i := 4) (N := (some 120)) (v := ?_) (a' := ?_) rfl rfl rfl (fun _ _ _ h => h) (Or.inl ⟨by rfl, ?_⟩) ?_ ?_
        rotate_left
        · intro w' hS
          go_simp
          with_reducible rfl
        rotate_left
        · simp only [Act.put, List.setIfInBounds_toArray, List.set_cons_zero, List.set_cons_succ, Go.Proofs.YtoafbpbnlmcklaaW.PrintLast.i64_w, Go.Proofs.YtoafbpbnlmcklaaW.PrintLast.i32_w]
          rfl
        refine held_read (i := 5) (N := (some 121)) (v := ?_) (a' := ?_) rfl rfl rfl (fun _ _ _ h => h) (Or.inl ⟨by rfl, ?_⟩) ?_ ?_
        rotate_left
        · intro w' hS
          go_simp
          with_reducible rfl
        rotate_left
        · simp only [Act.put, List.setIfInBounds_toArray, List.set_cons_zero, List.set_cons_succ, Go.Proofs.YtoafbpbnlmcklaaW.PrintLast.i64_w, Go.Proofs.YtoafbpbnlmcklaaW.PrintLast.i32_w]
          rfl
        refine held_run (i := 1) (N := (some 117)) rfl rfl rfl (fun K hK => ?_)
        refine Go.Proofs.YtoafbpbnlmcklaaW.PrintLast.goes_ Try.func17 (by kernel_rfl) rfl #[.pointer (some ⟨Wb, 0, none⟩)] (by rfl) rfl rfl (by first | done | rfl | (simp only [List.map_toArray, List.map_cons, List.map_nil]; first | done | rfl)) ?_
        refine (records_walk 66 w.heap.size Wb D u vL L w6.drew (HL6.out.l.below (below_drew (Below.refl _ _))) HLn.out HL6.out.few).mono ?_
        rintro x wA ⟨vA, rfl, hoA, hbA⟩
        refine ⟨_, rfl, ?_⟩
        refine hK.out _ _ ((blk_cell (blk_below (blk_drew HR6.out.l.blk) hbA) 1).trans rfl) ?_
        clear hK K
        refine held_norm (a' := ?_) ?_ ?_
        rotate_left
        · simp only [Act.put, List.setIfInBounds_toArray, List.set_cons_zero, List.set_cons_succ, Go.Proofs.YtoafbpbnlmcklaaW.PrintLast.i64_w, Go.Proofs.YtoafbpbnlmcklaaW.PrintLast.i32_w]
          rfl
        have HA := Aside0.mk (show Below w6.heap.size w6 wA from below_then (below_drew (Below.refl _ _)) (Nat.le_refl _) hbA)
        obtain ⟨AA, cA, eA⟩ := Kd.R_slice hoA
        rw [← HNL2.out] at eA
        subst eA
        have HXA := Aside0.mk (Kd.R_reads' hoA)
        have HXB := Aside0.mk (Kd.R_reads' (Kd.R_below HR6.out.l.rs HA.out))
        clear hoA hbA
        refine held_run (i := 6) (N := (some 122)) rfl rfl rfl (fun K hK => ?_)
        refine Go.Proofs.YtoafbpbnlmcklaaW.PrintLast.goes_ Try.func16 (by kernel_rfl) rfl #[.slice AA nL2 cA, .slice AL2 nL2 cL2] (by rfl) rfl rfl (by first | done | rfl | (simp only [List.map_toArray, List.map_cons, List.map_nil]; first | done | rfl)) ?_
        refine (calls_of_args (by rw [← HNL2.out]) (colloquyref20_Same.calls ks AA cA L AL2 cL2 L true wA HXA.out.2.2 (by rw [← HNL2.out]; exact HXA.out.2.1) HXB.out.2.2 (by rw [← HNL2.out]; exact HXB.out.2.1) HKS.out)).mono ?_
        rintro x wB ⟨rfl, ⟨qB, hwB⟩⟩
        refine ⟨_, rfl, ?_⟩
        refine hK.out _ _ (by rw [hwB]; exact (blk_cell (blk_below (blk_below HR6.out.l.blk HA.out) (pw_below_drewN (Below.refl _ _) _)) 1).trans rfl) ?_
        clear hK K
        refine held_norm (a' := ?_) ?_ ?_
        rotate_left
        · simp only [Act.put, List.setIfInBounds_toArray, List.set_cons_zero, List.set_cons_succ, Go.Proofs.YtoafbpbnlmcklaaW.PrintLast.i64_w, Go.Proofs.YtoafbpbnlmcklaaW.PrintLast.i32_w]
          rfl
        have HBB := Aside0.mk (show Below w6.heap.size w6 wB by rw [hwB]; exact pw_below_drewN HA.out _)
        clear hwB
        refine held_run (i := 7) (N := (some 14)) rfl rfl rfl (fun K hK => ?_)
        go_simp
        refine hK.out _ _ ((blk_cell (blk_below HR6.out.l.blk HBB.out) 1).trans rfl) ?_
        clear hK K
        refine held_done ?_
        have HLB := Aside0.mk (HL6.out.below HBB.out)
        have HRB := Aside0.mk (HR6.out.below HBB.out)
        have HBz := Aside0.mk (below_then HB6.out HB6.out.size HBB.out)
        have qv2 := blk_cell HRB.out.l.blk 2
        have qr1 : wB.cell? ⟨D2, 1, none⟩ = some (.slice none 0 0) := (blk_cell HRB.out.d.blk 1).trans rfl
        go_wp2_with fail
        go_quiet (first | (go_at_call 13; exact Calls.quiet_of_same (used_walk 66 w.heap.size Wb D u vL L _ (HLB.out.l.below (pw_below_drewN (Below.refl _ _) _)))) | (go_at_call 21; exact Calls.quiet_of_same (waiting_walk w.heap.size D gS _ _ (applyW S W) ([] : List (Int × List Int)) _ (HLB.out.d.below (pw_below_drewN (Below.refl _ _) _)))))
        clear qv2 qr1
        obtain ⟨wq, hwq⟩ : ∃ wq, wq = wB.drewN nq := ⟨_, rfl⟩
        have HLq := Aside0.mk (show Loose w.heap.size D gS m (q + 1) Wb u A cW vL (applyW S W) ([] : List (Int × List Int)) L wq by rw [hwq]; exact HLB.out.below (pw_below_drewN (Below.refl _ _) _))
        have HRq := Aside0.mk (show RLoose w.heap.size D2 m Wb2 u AS cS (.slice none 0 0) _ (applyW S W) ([] : List (Int × List Int)) L wq by rw [hwq]; exact HRB.out.below (pw_below_drewN (Below.refl _ _) _))
        have HBq := Aside0.mk (show Below w.heap.size w wq by rw [hwq]; exact pw_below_drewN HBz.out _)
        rw [← hwq]
        clear hwq
        go_wp2_with fail
        go_roundg k1
        case measure => omega
        case rel =>
          refine ⟨j + 1, (q + 1), _, _, _, _, _, _, _, _, _, _, _, rfl, rfl, ?_, ⟨by have := HJ.out; omega⟩, ⟨by have := HQ.out; omega⟩, HLq, HRq, HA6, HBq⟩
          exact congrArg (Value.int .i64) (widx (by have := HLT.out; have := HL.out; omega))
      have ckc : (o.f0 == 1) = false := beq_eq_false_iff_ne.mpr ck
      clear ck
      have HBd := Aside0.mk (below_drew HB.out)
      have y2 := kfact HX2.out HB.out
      have z2 := kfact HX2.out HBd.out
      have y3 := kfact HX3.out HB.out
      have z3 := kfact HX3.out HBd.out
      have y4 := kfact HX4.out HB.out
      have z4 := kfact HX4.out HBd.out
      have HLd := Aside0.mk (HLo.out.below (below_drew (Below.refl _ _)))
      have HRd := Aside0.mk (HRo.out.below (below_drew (Below.refl _ _)))
      go_wp2_with fail
      go_still_tail 16, (by kernel_rfl)
      change wpList _ _ _ _ _ wr.drew
      go_wp2_with fail
      refine (loose_crash w.heap.size D gS m q Wb u cW A vL S W L AK cK o.f2 o.f3 o.f4 _ HLd.out (by have := HQ9.out; omega) (Kd.F_mono (Kd.F_below (Kd.C_F Kd.heap_bool HIK.out) HBd.out) (fun k hk => by have := HLd.out.d.base.2.1; omega))).mono ?_
      rintro x w5 ⟨rfl, hl5, ht5⟩
      have HL5 := Aside0.mk hl5
      have HR5 := Aside0.mk (HRd.out.apart ht5 (fun k h1 h2 => HAp.out k h2 h1) (fun k cells hc => HLd.out.ok5 k cells hc))
      have HB5 := Aside0.mk (HLd.out.bel ht5 HBd.out (Nat.le_refl _))
      clear hl5 ht5 y2 y3 y4 z2 z3 z4 HBd HLd HRd
      have HBd := Aside0.mk (below_drew HB5.out)
      have y2 := kfact HX2.out HB5.out
      have z2 := kfact HX2.out HBd.out
      have y3 := kfact HX3.out HB5.out
      have z3 := kfact HX3.out HBd.out
      have y4 := kfact HX4.out HB5.out
      have z4 := kfact HX4.out HBd.out
      have HLd := Aside0.mk (HL5.out.below (below_drew (Below.refl _ _)))
      have HRd := Aside0.mk (HR5.out.below (below_drew (Below.refl _ _)))
      go_wp2_with fail
      go_still_tail 16, (by kernel_rfl)
      change wpList _ _ _ _ _ w5.drew
      go_wp2_with fail
      refine (rl_crash w.heap.size D2 m q Wb2 u cS AS vW vL2 S W L AK cK o.f2 o.f3 o.f4 _ HRd.out HLo.out.p (by have := HQ9.out; omega) (Kd.F_mono (Kd.F_below (Kd.C_F Kd.heap_bool HIK.out) HBd.out) (fun k hk => (HRd.out.okB k hk).1))).mono ?_
      rintro x w6 ⟨rfl, hr6, ht6⟩
      have HR6 := Aside0.mk hr6
      have HL6 := Aside0.mk (HLd.out.apart ht6 (fun k h1 h2 => HAp.out k h1 h2) (fun k cells hc => HRd.out.ok5 k cells hc))
      have HB6 := Aside0.mk (HRd.out.bel ht6 HBd.out (Nat.le_refl _))
      clear hr6 ht6 y2 y3 y4 z2 z3 z4 HBd HLd HRd
      have HDc := Aside0.mk HL6.out.d
      have HRc := Aside0.mk HR6.out.d
      have HPc := Aside0.mk HL6.out.p
      have HBSc := Aside0.mk HL6.out.bs
      obtain ⟨Sc, hSc⟩ : ∃ Sc, Sc = (crashW o.f2 o.f3 (clampB o.f4) S W W.length) := ⟨_, rfl⟩
      rw [← hSc] at HDc HRc HPc HBSc
      clear hSc HL6 HR6 HL5 HR5
      have HQc := HQ9.out
      go_wp2_with fail
      refine (loose_open0 w.heap.size D gS m (q + 1) cW A Sc [] w6 HDc.out HPc.out HBSc.out (by simp) (by have := HM.out; omega) (by omega)).mono ?_
      rintro x wc5 ⟨Wbc, vLc, Ac, cWc, rfl, hl5, ht5, hg5⟩
      have HLc := Aside0.mk hl5
      have HRc5 := Aside0.mk (RefAt.dtouch HRc.out HDc.out ht5)
      have HBc5 := Aside0.mk (ht5.bel HB6.out (HDc.out).base.2.2.2 (fun k hk => ((HDc.out).inD hk).1))
      have HAPc := Aside0.mk (show ∀ k, PL D gS Ac Wbc vLc k → ¬ InR D2 (.slice AS m cS) (.slice none 0 0) k from fun k h1 h2 => by
        rcases hg5 k h1 with g | g
        · exact inD_inR HRc.out HDc.out g h2
        · have := (HRc.out).lt h2; omega)
      clear hl5 ht5 hg5
      go_wp2_with fail
      refine (rl_open w.heap.size D2 m (q + 1) cS AS (.slice none 0 0) Sc [] wc5 HRc5.out HPc.out HBSc.out (by simp) (by have := HM.out; omega) (by omega)).mono ?_
      rintro x wc6 ⟨Wb2c, vL2c, rfl, hr6, ht6, hg6⟩
      have HRy := Aside0.mk hr6
      have HLy := Aside0.mk (HLc.out.apart ht6 HAPc.out (fun k cells hc hi => inR_5 HRc5.out k cells hi hc))
      have HBy := Aside0.mk (ht6.bel HBc5.out HLc.out.size (fun k hk => (HRc5.out.inR hk).1))
      have HAy := Aside0.mk (show ∀ k, PL D gS Ac Wbc vLc k → ¬ PR D2 m AS cS (.slice none 0 0) Wb2c vL2c k from fun k h1 h2 => by
        rcases hg6 k h2 with g | g
        · exact HAPc.out k h1 g
        · have := HLc.out.lt h1; omega)
      clear hr6 ht6 hg6 HLc HRc5 HBc5 HAPc
      rw [show applyW Sc [] = Sc from rfl] at HLy HRy
      obtain ⟨Lc, hLc⟩ : ∃ L, L = (openF Sc).1 := ⟨_, rfl⟩
      obtain ⟨uc, huc⟩ : ∃ u, u = (openF Sc).2 := ⟨_, rfl⟩
      rw [← hLc, ← huc] at HLy HRy
      clear hLc huc
      obtain ⟨Sy, hSy⟩ : ∃ S, S = cleanF Sc uc := ⟨_, rfl⟩
      rw [← hSy] at HLy HRy
      clear hSy HDc HRc HPc HBSc HQc
      obtain ⟨AL2, cL2, eL2⟩ := Kd.R_slice HRy.out.l.rs
      obtain ⟨nL2, hnL2⟩ : ∃ nL2, nL2 = (Lc : List (List Int)).length := ⟨_, rfl⟩
      rw [← hnL2] at eL2
      have HNL2 := Aside0.mk hnL2
      subst eL2
      clear hnL2
      have HLn := Aside0.mk (show (Lc : List (List Int)).length ≤ 1000000 by have := HLy.out.len; have := HLy.out.le; have := HM.out; omega)
      obtain ⟨ks, hks⟩ := same_k (Lc) (by have := HLn.out; omega)
      have HKS := Aside0.mk hks
      clear hks
      go_wp2_with fail
      refine wp_region_held (S := fun U => U.cell? ⟨Wb2c, 1, none⟩ = some (.slice AL2 nL2 cL2)) none [1, 6, 7] [0, 2, 3, 4, 5, 1, 6, 7] (by kernel_rfl) rfl (by kernel_rfl) (by kernel_rfl) ((blk_cell (blk_drew HRy.out.l.blk) 1).trans rfl) (fun hHeld => ?_)
      refine held_read (i := 0) (N := (some 116)) (v := ?_) (a' := ?_) rfl rfl rfl (fun _ _ _ h => h) (Or.inl ⟨by rfl, ?_⟩) ?_ ?_
      rotate_left
      · intro w' hS
        go_simp
        with_reducible rfl
      rotate_left
      · simp only [Act.put, List.setIfInBounds_toArray, List.set_cons_zero, List.set_cons_succ, Go.Proofs.YtoafbpbnlmcklaaW.PrintLast.i64_w, Go.Proofs.YtoafbpbnlmcklaaW.PrintLast.i32_w]
        rfl
      refine held_read (i := 2) (N := (some 118)) (v := ?_) (a' := ?_) rfl rfl rfl (fun _ _ _ h => h) (Or.inl ⟨by rfl, ?_⟩) ?_ ?_
      rotate_left
      · intro w' hS
        go_simp
        with_reducible rfl
      rotate_left
      · simp only [Act.put, List.setIfInBounds_toArray, List.set_cons_zero, List.set_cons_succ, Go.Proofs.YtoafbpbnlmcklaaW.PrintLast.i64_w, Go.Proofs.YtoafbpbnlmcklaaW.PrintLast.i32_w]
        rfl
      refine held_read (i := 3) (N := (some 119)) (v := ?_) (a' := ?_) rfl rfl rfl (fun _ _ _ h => h) (Or.inl ⟨by rfl, ?_⟩) ?_ ?_
      rotate_left
      · intro w' hS
        go_simp
        with_reducible rfl
      rotate_left
      · simp only [Act.put, List.setIfInBounds_toArray, List.set_cons_zero, List.set_cons_succ, Go.Proofs.YtoafbpbnlmcklaaW.PrintLast.i64_w, Go.Proofs.YtoafbpbnlmcklaaW.PrintLast.i32_w]
        rfl
      refine held_read (i := 4) (N := (some 120)) (v := ?_) (a' := ?_) rfl rfl rfl (fun _ _ _ h => h) (Or.inl ⟨by rfl, ?_⟩) ?_ ?_
      rotate_left
      · intro w' hS
        go_simp
        with_reducible rfl
      rotate_left
      · simp only [Act.put, List.setIfInBounds_toArray, List.set_cons_zero, List.set_cons_succ, Go.Proofs.YtoafbpbnlmcklaaW.PrintLast.i64_w, Go.Proofs.YtoafbpbnlmcklaaW.PrintLast.i32_w]
        rfl
      refine held_read (i := 5) (N := (some 121)) (v := ?_) (a' := ?_) rfl rfl rfl (fun _ _ _ h => h) (Or.inl ⟨by rfl, ?_⟩) ?_ ?_
      rotate_left
      · intro w' hS
        go_simp
        with_reducible rfl
      rotate_left
      · simp only [Act.put, List.setIfInBounds_toArray, List.set_cons_zero, List.set_cons_succ, Go.Proofs.YtoafbpbnlmcklaaW.PrintLast.i64_w, Go.Proofs.YtoafbpbnlmcklaaW.PrintLast.i32_w]
        rfl
      refine held_run (i := 1) (N := (some 117)) rfl rfl rfl (fun K hK => ?_)
      refine Go.Proofs.YtoafbpbnlmcklaaW.PrintLast.goes_ Try.func17 (by kernel_rfl) rfl #[.pointer (some ⟨Wbc, 0, none⟩)] (by rfl) rfl rfl (by first | done | rfl | (simp only [List.map_toArray, List.map_cons, List.map_nil]; first | done | rfl)) ?_
      refine (records_walk 66 w.heap.size Wbc D uc vLc Lc wc6.drew (HLy.out.l.below (below_drew (Below.refl _ _))) HLn.out HLy.out.few).mono ?_
      rintro x wA ⟨vA, rfl, hoA, hbA⟩
      refine ⟨_, rfl, ?_⟩
      refine hK.out _ _ ((blk_cell (blk_below (blk_drew HRy.out.l.blk) hbA) 1).trans rfl) ?_
      clear hK K
      refine held_norm (a' := ?_) ?_ ?_
      rotate_left
      · simp only [Act.put, List.setIfInBounds_toArray, List.set_cons_zero, List.set_cons_succ, Go.Proofs.YtoafbpbnlmcklaaW.PrintLast.i64_w, Go.Proofs.YtoafbpbnlmcklaaW.PrintLast.i32_w]
        rfl
      have HA := Aside0.mk (show Below wc6.heap.size wc6 wA from below_then (below_drew (Below.refl _ _)) (Nat.le_refl _) hbA)
      obtain ⟨AA, cA, eA⟩ := Kd.R_slice hoA
      rw [← HNL2.out] at eA
      subst eA
      have HXA := Aside0.mk (Kd.R_reads' hoA)
      have HXB := Aside0.mk (Kd.R_reads' (Kd.R_below HRy.out.l.rs HA.out))
      clear hoA hbA
      refine held_run (i := 6) (N := (some 122)) rfl rfl rfl (fun K hK => ?_)
      refine Go.Proofs.YtoafbpbnlmcklaaW.PrintLast.goes_ Try.func16 (by kernel_rfl) rfl #[.slice AA nL2 cA, .slice AL2 nL2 cL2] (by rfl) rfl rfl (by first | done | rfl | (simp only [List.map_toArray, List.map_cons, List.map_nil]; first | done | rfl)) ?_
      refine (calls_of_args (by rw [← HNL2.out]) (colloquyref20_Same.calls ks AA cA Lc AL2 cL2 Lc true wA HXA.out.2.2 (by rw [← HNL2.out]; exact HXA.out.2.1) HXB.out.2.2 (by rw [← HNL2.out]; exact HXB.out.2.1) HKS.out)).mono ?_
      rintro x wB ⟨rfl, ⟨qB, hwB⟩⟩
      refine ⟨_, rfl, ?_⟩
      refine hK.out _ _ (by rw [hwB]; exact (blk_cell (blk_below (blk_below HRy.out.l.blk HA.out) (pw_below_drewN (Below.refl _ _) _)) 1).trans rfl) ?_
      clear hK K
      refine held_norm (a' := ?_) ?_ ?_
      rotate_left
      · simp only [Act.put, List.setIfInBounds_toArray, List.set_cons_zero, List.set_cons_succ, Go.Proofs.YtoafbpbnlmcklaaW.PrintLast.i64_w, Go.Proofs.YtoafbpbnlmcklaaW.PrintLast.i32_w]
        rfl
      have HBB := Aside0.mk (show Below wc6.heap.size wc6 wB by rw [hwB]; exact pw_below_drewN HA.out _)
      clear hwB
      refine held_run (i := 7) (N := (some 14)) rfl rfl rfl (fun K hK => ?_)
      go_simp
      refine hK.out _ _ ((blk_cell (blk_below HRy.out.l.blk HBB.out) 1).trans rfl) ?_
      clear hK K
      refine held_done ?_
      have HLB := Aside0.mk (HLy.out.below HBB.out)
      have HRB := Aside0.mk (HRy.out.below HBB.out)
      have HBz := Aside0.mk (below_then HBy.out HBy.out.size HBB.out)
      have qv2 := blk_cell HRB.out.l.blk 2
      have qr1 : wB.cell? ⟨D2, 1, none⟩ = some (.slice none 0 0) := (blk_cell HRB.out.d.blk 1).trans rfl
      go_wp2_with fail
      go_quiet (first | (go_at_call 13; exact Calls.quiet_of_same (used_walk 66 w.heap.size Wbc D uc vLc Lc _ (HLB.out.l.below (pw_below_drewN (Below.refl _ _) _)))) | (go_at_call 21; exact Calls.quiet_of_same (waiting_walk w.heap.size D gS _ _ Sy ([] : List (Int × List Int)) _ (HLB.out.d.below (pw_below_drewN (Below.refl _ _) _)))))
      clear qv2 qr1
      obtain ⟨wq, hwq⟩ : ∃ wq, wq = wB.drewN nq := ⟨_, rfl⟩
      have HLq := Aside0.mk (show Loose w.heap.size D gS m 0 Wbc uc Ac cWc vLc Sy ([] : List (Int × List Int)) Lc wq by rw [hwq]; exact HLB.out.below (pw_below_drewN (Below.refl _ _) _))
      have HRq := Aside0.mk (show RLoose w.heap.size D2 m Wb2c uc AS cS (.slice none 0 0) _ Sy ([] : List (Int × List Int)) Lc wq by rw [hwq]; exact HRB.out.below (pw_below_drewN (Below.refl _ _) _))
      have HBq := Aside0.mk (show Below w.heap.size w wq by rw [hwq]; exact pw_below_drewN HBz.out _)
      rw [← hwq]
      clear hwq
      go_wp2_with fail
      go_roundg k1
      case measure => omega
      case rel =>
        refine ⟨j + 1, 0, _, _, _, _, _, _, _, _, _, _, _, rfl, rfl, ?_, ⟨by have := HJ.out; omega⟩, ⟨by have := HQ.out; omega⟩, HLq, HRq, HAy, HBq⟩
        exact congrArg (Value.int .i64) (widx (by have := HLT.out; have := HL.out; omega))
    · obtain rfl : l.length = j := by have := HJ.out; omega
      have p1 : decide ((l.length : Int) < (l.length : Int)) = false := decide_eq_false (by omega)
      clear hlt
      go_wp2_with fail
      refine (room_walk w.heap.size w.heap.size D gS cW m q Wb u A vL S W L wr HLo.out.d HLo.out.l HLo.out.p (by have := HM.out; omega) HLo.out.le).mono ?_
      rintro x w5 ⟨rfl, hb5⟩
      have HR5 := Aside0.mk (HRo.out.below hb5)
      have HB5 := Aside0.mk (below_then HB.out HB.out.size hb5)
      clear hb5
      go_wp2_with fail
      refine (refroom_walk w.heap.size w.heap.size D2 m q Wb2 u AS cS vW vL2 S W L w5 HR5.out.d HR5.out.l (by have := HM.out; omega) HLo.out.le).mono ?_
      rintro x w6 ⟨rfl, hb6⟩
      have HB6 := Aside0.mk (below_then HB5.out HB5.out.size hb6)
      clear hb6
      go_wp2
      go_ret
      exact ⟨rfl, HB6.out⟩
def okO (l : List S56) : Bool := l.all (fun o => o.f1.all (fun c => decide (0 ≤ c) && decide (c < 256)))
theorem okO_iff {l : List S56} : okO l = true ↔ ∀ o ∈ l, Bs o.f1 := by
  unfold okO Bs
  simp only [List.all_eq_true, Bool.and_eq_true, decide_eq_true_eq]
def colloquylaw20_WalDoes.f (a0 : Int) (l1 : List S56) : Option Bool := if okO l1 = true then some true else none
theorem colloquylaw20_WalDoes.calls (a0 : Int) (A1 : Option Addr) (c1 : Nat) (l1 : List S56) (r : Bool) (w : World) (hr1 : Kd.C k56 w A1 l1.length l1) (hc1 : l1.length ≤ c1) (h : colloquylaw20_WalDoes.f a0 l1 = some r) :
    Calls Try.prog 8 #[.int .i64 a0, .slice A1 l1.length c1] w fun e w' => e = .returned (.bool r) ∧ Below w.heap.size w w' := by
  unfold colloquylaw20_WalDoes.f at h
  by_cases c : okO l1 = true
  · rw [if_pos c] at h
    obtain rfl := Option.some.inj h
    obtain ⟨b, hb, hh⟩ := few_total l1
    cases b with
    | false => exact WalDoes_out1 a0 A1 c1 l1 w hr1 hc1 hb
    | true =>
      by_cases hn : a0 ≤ 100
      · exact WalDoes_in a0 A1 c1 l1 w hr1 hc1 hb hn (hh rfl) (okO_iff.1 c)
      · exact WalDoes_out2 a0 A1 c1 l1 w hr1 hc1 hb (by omega)
  · rw [if_neg c] at h; cases h
end Go.Proofs.Ytoafbpbnlmcklaa.PAll
