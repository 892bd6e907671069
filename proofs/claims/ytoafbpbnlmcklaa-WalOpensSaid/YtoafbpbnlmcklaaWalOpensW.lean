/- WalOpens over the log, and the reference's, in memory. Printed by wip/tools/genopens.py. -/
import Derived.Test.YtoafbpbnlmcklaaMRefB
import Derived.StillTailTactics
namespace Go.Proofs.Ytoafbpbnlmcklaa.PAll
open Go.RowKit Go.Proofs.YtoafbpbnlmcklaaW.PrintWords Go.Proofs.YtoafbpbnlmcklaaW.PrintLast Go.Proofs.YtoafbpbnlmcklaaW.PrintMore Go.Proofs.Ytoafbpbnlmcklaa.Pure
set_option linter.unusedVariables false
set_option linter.unusedSimpArgs false
theorem clampN_40 {n : Int} (h : n ≤ 40) : clampN n ≤ 100 := clampN_100 (by omega)
theorem RefAt.dtouch {base D gS cW base2 D2 : Nat} {A : Option Addr} {vS vW : Value} {S S2 : List (List Int)} {W W2 : List (Int × List Int)} {w w' : World} (hr : RefAt base2 D2 vS vW S2 W2 w) (h : DiskAt base D gS A cW S W w) (ht : TouchP (InD D gS A) w w') : RefAt base2 D2 vS vW S2 W2 w' :=
  hr.move (fun k cells q hq hh => ht.block k (blk_lt hh) (fun hi => by
    obtain ⟨_, cs', t', ht2, hh'⟩ := h.inD hi
    have := blk_type hh hh'
    rcases ht2 with rfl | rfl | rfl <;> rcases hq with rfl | rfl | rfl | rfl <;> exact absurd this (by decide)))
theorem inD_inR {base D gS cW base2 D2 : Nat} {A : Option Addr} {vS vW : Value} {S S2 : List (List Int)} {W W2 : List (Int × List Int)} {w : World} (hr : RefAt base2 D2 vS vW S2 W2 w) (h : DiskAt base D gS A cW S W w) {k : Nat} (h1 : InD D gS A k) (h2 : InR D2 vS vW k) : False := by
  obtain ⟨_, cs, t, ht, hh⟩ := h.inD h1
  obtain ⟨_, cs', t', ht', hh'⟩ := hr.inR h2
  have := blk_type hh hh'
  rcases ht with rfl | rfl | rfl <;> rcases ht' with rfl | rfl | rfl <;> exact absurd this (by decide)
theorem rd_T77_mem {l : List S77} {j : Nat} (h : j < l.length) : rd_T77 l (j : Int) ∈ l := by
  unfold rd_T77
  rw [Int.toNat_natCast, List.getD_eq_getElem?_getD, List.getElem?_eq_getElem h, Option.getD_some]
  exact List.getElem_mem h
theorem zeroS_f16 : List.replicate 16 (0 : Int) = zeroS := rfl
set_option maxHeartbeats 16000000 in
set_option maxRecDepth 100000 in
theorem WalOpens_out1 (n : Int) (A0 : Option Addr) (c0 : Nat) (l : List S77) (w : World) (hr0 : Kd.C k77 w A0 l.length l) (hn : 40 < n) : Calls Try.prog 4 #[.int .i64 n, .slice A0 l.length c0] w fun x w' => x = .returned (.bool true) ∧ Below w.heap.size w w' := by
  have g1 : decide (n > (40 : Int)) = true := decide_eq_true (by omega)
  clear hn
  have HR0 := Aside0.mk hr0
  clear hr0
  go_enter Try.func4, Try.ntmps4
  go_wp2_with fail
  refine (awake_walk w).mono ?_
  rintro x w1 ⟨rfl, hb1⟩
  have HB1 := Aside0.mk hb1
  clear hb1
  go_wp2_with fail
  refine (new_tot n w1).mono ?_
  rintro x w2 ⟨D, gS, rfl, hd2, hb2⟩
  have HD2 := Aside0.mk (hd2.lower HB1.out.size)
  have HB2 := Aside0.mk (below_then HB1.out HB1.out.size hb2)
  clear hd2 hb2 HB1
  go_wp2
  go_ret
  exact ⟨rfl, HB2.out⟩
set_option maxHeartbeats 16000000 in
set_option maxRecDepth 100000 in
theorem WalOpens_out2 (n : Int) (A0 : Option Addr) (c0 : Nat) (l : List S77) (w : World) (hr0 : Kd.C k77 w A0 l.length l) (hn : n ≤ 40) (hl : 60 < l.length) : Calls Try.prog 4 #[.int .i64 n, .slice A0 l.length c0] w fun x w' => x = .returned (.bool true) ∧ Below w.heap.size w w' := by
  have g1 : decide (n > (40 : Int)) = false := decide_eq_false (by omega)
  have g2 : decide ((l.length : Int) > 60) = true := decide_eq_true (by omega)
  clear hn hl
  have HR0 := Aside0.mk hr0
  clear hr0
  go_enter Try.func4, Try.ntmps4
  go_wp2_with fail
  refine (awake_walk w).mono ?_
  rintro x w1 ⟨rfl, hb1⟩
  have HB1 := Aside0.mk hb1
  clear hb1
  go_wp2_with fail
  refine (new_tot n w1).mono ?_
  rintro x w2 ⟨D, gS, rfl, hd2, hb2⟩
  have HD2 := Aside0.mk (hd2.lower HB1.out.size)
  have HB2 := Aside0.mk (below_then HB1.out HB1.out.size hb2)
  clear hd2 hb2 HB1
  go_wp2
  go_ret
  exact ⟨rfl, HB2.out⟩
set_option maxHeartbeats 16000000 in
set_option maxRecDepth 100000 in
theorem WalOpens_in (n : Int) (A0 : Option Addr) (c0 : Nat) (l : List S77) (w : World) (hr0 : Kd.C k77 w A0 l.length l) (hn : n ≤ 40) (hl : l.length ≤ 60) (hbs : ∀ o ∈ l, Bs o.f1) : Calls Try.prog 4 #[.int .i64 n, .slice A0 l.length c0] w fun x w' => x = .returned (.bool true) ∧ Below w.heap.size w w' := by
  have g1 : decide (n > (40 : Int)) = false := decide_eq_false (by omega)
  have g2 : decide ((l.length : Int) > 60) = false := decide_eq_false (by omega)
  have HM := Aside0.mk (clampN_40 hn)
  have HL := Aside0.mk hl
  have HBS := Aside0.mk hbs
  clear hn hl hbs
  have HR0 := Aside0.mk hr0
  clear hr0
  go_enter Try.func4, Try.ntmps4
  go_wp2_with fail
  refine (awake_walk w).mono ?_
  rintro x w1 ⟨rfl, hb1⟩
  have HB1 := Aside0.mk hb1
  clear hb1
  go_wp2_with fail
  refine (new_tot n w1).mono ?_
  rintro x w2 ⟨D, gS, rfl, hd2, hb2⟩
  have HD2 := Aside0.mk (hd2.lower HB1.out.size)
  have HB2 := Aside0.mk (below_then HB1.out HB1.out.size hb2)
  clear hd2 hb2 HB1
  go_wp2_with fail
  refine (refnew_tot n w2).mono ?_
  rintro x w4 ⟨AS, cS, rfl, hr4, hb4⟩
  have HD4 := Aside0.mk (HD2.out.below hb4)
  have HR4 := Aside0.mk (hr4.lower HB2.out.size)
  have HB4 := Aside0.mk (below_then HB2.out HB2.out.size hb4)
  obtain ⟨D2, hD2⟩ : ∃ D2, D2 = w2.heap.size := ⟨_, rfl⟩
  rw [← hD2] at HR4 ⊢
  clear hr4 hb4 HD2 HB2 hD2
  obtain ⟨m, hm⟩ : ∃ m, m = clampN n := ⟨_, rfl⟩
  rw [← hm] at HD4 HR4 HM
  clear hm
  go_wp2
  go_loopg [8] l.length (fun kq v8 w' => ∃ (j : Nat) (S : List (List Int)) (W : List (Int × List Int)) (A : Option Addr) (cW : Nat) (vW : Value), v8 = .int .i64 (j : Int) ∧ Aside0 (j + kq = l.length) ∧ Aside0 (DiskAt w.heap.size D gS A cW S W w') ∧ Aside0 (RefAt w.heap.size D2 (.slice AS m cS) vW S W w') ∧ Aside0 (Parts m j S W) ∧ Aside0 ((∀ s ∈ S, Bs s) ∧ ∀ p ∈ W, Bs p.2) ∧ Aside0 (Below w.heap.size w w'))
  case atStart => exact ⟨0, _, [], none, 0, _, rfl, ⟨by omega⟩, HD4, HR4, ⟨Parts.new m⟩, ⟨fun s hs => (by rw [List.eq_of_mem_replicate hs]; exact zeroS_bs), by simp⟩, HB4⟩
  case round =>
    obtain ⟨j, S, W, A, cW, vW, rfl, HJ, HD, HR, HP, HSW, HB⟩ := hrel
    by_cases hlt : j < l.length
    · obtain ⟨ad, AB, cB, e, hx0, hx1, hlB, hiB⟩ := at_T77 HR0.out (j : Int) (by omega) (by omega)
      cases e
      obtain ⟨o, ho⟩ : ∃ o, o = rd_T77 l (j : Int) := ⟨_, rfl⟩
      have HOB := Aside0.mk (show Bs o.f1 by rw [ho]; exact HBS.out _ (rd_T77_mem hlt))
      rw [← ho] at hx0 hx1 hlB hiB
      rw [Int.toNat_natCast] at hx0 hx1
      have HX0 := Aside0.mk hx0
      have HX1 := Aside0.mk hx1
      have HIB := Aside0.mk hiB
      have HLB := Aside0.mk hlB
      have HLT := Aside0.mk hlt
      clear ho hx0 hx1 hlB hiB
      have p1 : decide ((j : Int) < (l.length : Int)) = true := decide_eq_true (by omega)
      have p2 := eq_true (show 0 ≤ (j : Int) by omega)
      have p3 := eq_true (show (j : Int) < (l.length : Int) by omega)
      have HJn := Aside0.mk (show j < 1099511627776 by have := HL.out; omega)
      have HWn := Aside0.mk (show W.length < 1099511627776 by have := HP.out.few; have := HL.out; omega)
      obtain ⟨k1, rfl⟩ : ∃ k1, gk = k1 + 1 := ⟨gk - 1, by have := HJ.out; omega⟩
      clear hlt
      have y1 := kfact HX1.out HB.out
      by_cases cl : o.f1.length > 40
      · have p4 : decide ((o.f1.length : Int) > 40) = true := decide_eq_true (by omega)
        clear cl
        go_wp2
        go_ret
        exact ⟨rfl, HB.out⟩
      have p4 : decide ((o.f1.length : Int) > 40) = false := decide_eq_false (by omega)
      clear cl
      go_wp2_with fail
      clear y1
      have HBd := Aside0.mk (below_drew HB.out)
      have y0 := kfact HX0.out HB.out
      have z0 := kfact HX0.out HBd.out
      have y1 := kfact HX1.out HB.out
      have z1 := kfact HX1.out HBd.out
      have HDd := Aside0.mk (HD.out.below (below_drew (Below.refl _ _)))
      have HRd := Aside0.mk (HR.out.below (below_drew (Below.refl _ _)))
      go_wp2_with fail
      go_still_tail 11, (by kernel_rfl)
      change wpList _ _ _ _ _ wr.drew
      go_wp2_with fail
      refine (write_walk w.heap.size D gS cW A AB S W o.f0 o.f1 _ cB _ HDd.out HWn.out (Kd.C_below HIB.out HBd.out) HLB.out).mono ?_
      rintro x w5 ⟨rfl, A5, cW5, hd5, ht5, _⟩
      have HD5 := Aside0.mk hd5
      have HR5 := Aside0.mk (HRd.out.touch HDd.out ht5)
      have HB5 := Aside0.mk (ht5.bel' HBd.out HDd.out (Nat.le_refl _))
      clear hd5 ht5 y0 y1 z0 z1 HBd HDd HRd
      have HBd := Aside0.mk (below_drew HB5.out)
      have y0 := kfact HX0.out HB5.out
      have z0 := kfact HX0.out HBd.out
      have y1 := kfact HX1.out HB5.out
      have z1 := kfact HX1.out HBd.out
      have HDd := Aside0.mk (HD5.out.below (below_drew (Below.refl _ _)))
      have HRd := Aside0.mk (HR5.out.below (below_drew (Below.refl _ _)))
      go_wp2_with fail
      go_still_tail 11, (by kernel_rfl)
      change wpList _ _ _ _ _ w5.drew
      go_wp2_with fail
      refine (refwrite_tot w.heap.size D2 m j AS cS vW S W o.f0 o.f1 AB _ cB _ HRd.out HP.out HJn.out (Kd.C_below HIB.out HBd.out)).mono ?_
      rintro x w6 ⟨rfl, vW6, hr6, ht6, _⟩
      have HR6 := Aside0.mk hr6
      have HD6 := Aside0.mk (HDd.out.rtouch HRd.out ht6)
      have HB6 := Aside0.mk (ht6.bel HBd.out HRd.out (Nat.le_refl _))
      have HP6 := Aside0.mk (HP.out.writeW o.f0 o.f1)
      have HSW6 := Aside0.mk (show (∀ s ∈ S, Bs s) ∧ ∀ p ∈ writeW S W o.f0 o.f1, Bs p.2 from ⟨HSW.out.1, fun p hp => by
        unfold writeW at hp
        split at hp
        · rcases List.mem_append.1 hp with h | h
          · exact HSW.out.2 p h
          · rw [List.mem_singleton] at h; rw [h]; exact HOB.out
        · exact HSW.out.2 p hp⟩)
      clear hr6 ht6 y0 y1 z0 z1 HBd HDd HRd
      go_wp2_with fail
      go_roundg k1
      case measure => omega
      case rel =>
        refine ⟨j + 1, _, _, _, _, _, ?_, ⟨by have := HJ.out; omega⟩, HD6, HR6, HP6, HSW6, HB6⟩
        exact congrArg (Value.int .i64) (widx (by have := HLT.out; have := HL.out; omega))
    · obtain rfl : l.length = j := by have := HJ.out; omega
      have p1 : decide ((l.length : Int) < (l.length : Int)) = false := decide_eq_false (by omega)
      clear hlt
      have HQ := Aside0.mk (show l.length ≤ 900000 by have := HL.out; omega)
      go_wp2_with fail
      refine (loose_open0 w.heap.size D gS m l.length cW A S W wr HD.out HP.out HSW.out.1 HSW.out.2 (by have := HM.out; omega) HQ.out).mono ?_
      rintro x w5 ⟨Wb, vL, A5, cW5, rfl, hl5, ht5, hg5⟩
      have HL5 := Aside0.mk hl5
      have HR5 := Aside0.mk (HR.out.dtouch HD.out ht5)
      have HB5 := Aside0.mk (ht5.bel HB.out HD.out.base.2.2.2 (fun k hk => (HD.out.inD hk).1))
      have HAP := Aside0.mk (show ∀ k, PL D gS A5 Wb vL k → ¬ InR D2 (.slice AS m cS) vW k from fun k h1 h2 => by
        rcases hg5 k h1 with g | g
        · exact inD_inR HR.out HD.out g h2
        · have := HR.out.lt h2; omega)
      clear hl5 ht5 hg5
      go_wp2_with fail
      refine (rl_open w.heap.size D2 m l.length cS AS vW S W w5 HR5.out HP.out HSW.out.1 HSW.out.2 (by have := HM.out; omega) HQ.out).mono ?_
      rintro x w6 ⟨Wb2, vL2, rfl, hr6, ht6, hg6⟩
      have HR6 := Aside0.mk hr6
      have HL6 := Aside0.mk (HL5.out.apart ht6 HAP.out (fun k cells hc hi => inR_5 HR5.out k cells hi hc))
      have HB6 := Aside0.mk (ht6.bel HB5.out HL5.out.size (fun k hk => (HR5.out.inR hk).1))
      clear hr6 ht6 hg6
      obtain ⟨T, hT⟩ : ∃ T, T = applyW S W := ⟨_, rfl⟩
      have HTl := Aside0.mk (show T.length = m by rw [hT, applyW_len]; exact HP.out.len)
      rw [← hT] at HR6 HL6
      obtain ⟨L, hLo⟩ : ∃ L, L = (openF T).1 := ⟨_, rfl⟩
      obtain ⟨u, huo⟩ : ∃ u, u = (openF T).2 := ⟨_, rfl⟩
      rw [← hLo, ← huo] at HR6 HL6
      clear hT hLo huo
      obtain ⟨S6, hS6⟩ : ∃ S6, S6 = cleanF T u := ⟨_, rfl⟩
      have HS6 := Aside0.mk hS6
      rw [← hS6] at HR6 HL6
      clear hS6 HR5 HL5 HB5 HAP
      obtain ⟨AL2, cL2, eL2⟩ := Kd.R_slice HR6.out.l.rs
      obtain ⟨nL2, hnL2⟩ : ∃ nL2, nL2 = (L : List (List Int)).length := ⟨_, rfl⟩
      rw [← hnL2] at eL2
      have HNL2 := Aside0.mk hnL2
      subst eL2
      clear hnL2
      have HLn := Aside0.mk (show (L : List (List Int)).length ≤ 1000000 by have := HL6.out.len; have := HL6.out.le; have := HM.out; omega)
      obtain ⟨ks, hks⟩ := same_k (L) (by have := HLn.out; omega)
      have HKS := Aside0.mk hks
      clear hks
      go_wp2_with fail
      refine wp_region_held (S := fun U => U.cell? ⟨Wb2, 1, none⟩ = some (.slice AL2 nL2 cL2)) none [1, 6, 7] [0, 2, 3, 4, 5, 1, 6, 7] (by kernel_rfl) rfl (by kernel_rfl) (by kernel_rfl) ((blk_cell (blk_drew HR6.out.l.blk) 1).trans rfl) (fun hHeld => ?_)
      refine held_read (i := 0) (N := (some 81)) (v := ?_) (a' := ?_) rfl rfl rfl (fun _ _ _ h => h) (Or.inl ⟨by rfl, ?_⟩) ?_ ?_
      rotate_left
      · intro w' hS
        go_simp
        with_reducible rfl
      rotate_left
      · simp only [Act.put, List.setIfInBounds_toArray, List.set_cons_zero, List.set_cons_succ, Go.Proofs.YtoafbpbnlmcklaaW.PrintLast.i64_w, Go.Proofs.YtoafbpbnlmcklaaW.PrintLast.i32_w]
        rfl
      refine held_read (i := 2) (N := (some 83)) (v := ?_) (a' := ?_) rfl rfl rfl (fun _ _ _ h => h) (Or.inl ⟨by rfl, ?_⟩) ?_ ?_
      rotate_left
      · intro w' hS
        go_simp
        with_reducible rfl
      rotate_left
      · simp only [Act.put, List.setIfInBounds_toArray, List.set_cons_zero, List.set_cons_succ, Go.Proofs.YtoafbpbnlmcklaaW.PrintLast.i64_w, Go.Proofs.YtoafbpbnlmcklaaW.PrintLast.i32_w]
        rfl
      refine held_read (i := 3) (N := (some 84)) (v := ?_) (a' := ?_) rfl rfl rfl (fun _ _ _ h => h) (Or.inl ⟨by rfl, ?_⟩) ?_ ?_
      rotate_left
      · intro w' hS
        go_simp
        with_reducible rfl
      rotate_left
      · simp only [Act.put, List.setIfInBounds_toArray, List.set_cons_zero, List.set_cons_succ, Go.Proofs.YtoafbpbnlmcklaaW.PrintLast.i64_w, Go.Proofs.YtoafbpbnlmcklaaW.PrintLast.i32_w]
        rfl
      refine held_read (i := 4) (N := (some 85)) (v := ?_) (a' := ?_) rfl rfl rfl (fun _ _ _ h => h) (Or.inl ⟨by rfl, ?_⟩) ?_ ?_
      rotate_left
      · intro w' hS
        go_simp
        with_reducible rfl
      rotate_left
      · simp only [Act.put, List.setIfInBounds_toArray, List.set_cons_zero, List.set_cons_succ, Go.Proofs.YtoafbpbnlmcklaaW.PrintLast.i64_w, Go.Proofs.YtoafbpbnlmcklaaW.PrintLast.i32_w]
        rfl
      refine held_read (i := 5) (N := (some 86)) (v := ?_) (a' := ?_) rfl rfl rfl (fun _ _ _ h => h) (Or.inl ⟨by rfl, ?_⟩) ?_ ?_
      rotate_left
      · intro w' hS
        go_simp
        with_reducible rfl
      rotate_left
      · simp only [Act.put, List.setIfInBounds_toArray, List.set_cons_zero, List.set_cons_succ, Go.Proofs.YtoafbpbnlmcklaaW.PrintLast.i64_w, Go.Proofs.YtoafbpbnlmcklaaW.PrintLast.i32_w]
        rfl
      refine held_run (i := 1) (N := (some 82)) rfl rfl rfl (fun K hK => ?_)
      refine Go.Proofs.YtoafbpbnlmcklaaW.PrintLast.goes_ Try.func17 (by kernel_rfl) rfl #[.pointer (some ⟨Wb, 0, none⟩)] (by rfl) rfl rfl (by first | done | rfl | (simp only [List.map_toArray, List.map_cons, List.map_nil]; first | done | rfl)) ?_
      refine (records_walk 66 w.heap.size Wb D u vL L w6.drew (HL6.out.l.below (below_drew (Below.refl _ _))) HLn.out HL6.out.few).mono ?_
      rintro x wA ⟨vA, rfl, hoA, hbA⟩
      refine ⟨_, rfl, ?_⟩
      refine hK.out _ _ ((blk_cell (blk_below (blk_drew HR6.out.l.blk) hbA) 1).trans rfl) ?_
      clear hK K
      refine held_norm (a' := ?_) ?_ ?_
      rotate_left
      · simp only [Act.put, List.setIfInBounds_toArray, List.set_cons_zero, List.set_cons_succ, Go.Proofs.YtoafbpbnlmcklaaW.PrintLast.i64_w, Go.Proofs.YtoafbpbnlmcklaaW.PrintLast.i32_w]
        rfl
      have HA := Aside0.mk (show Below w6.heap.size w6 wA from below_then (below_drew (Below.refl _ _)) (Nat.le_refl _) hbA)
      obtain ⟨AA, cA, eA⟩ := Kd.R_slice hoA
      rw [← HNL2.out] at eA
      subst eA
      have HXA := Aside0.mk (Kd.R_reads' hoA)
      have HXB := Aside0.mk (Kd.R_reads' (Kd.R_below HR6.out.l.rs HA.out))
      clear hoA hbA
      refine held_run (i := 6) (N := (some 87)) rfl rfl rfl (fun K hK => ?_)
      refine Go.Proofs.YtoafbpbnlmcklaaW.PrintLast.goes_ Try.func16 (by kernel_rfl) rfl #[.slice AA nL2 cA, .slice AL2 nL2 cL2] (by rfl) rfl rfl (by first | done | rfl | (simp only [List.map_toArray, List.map_cons, List.map_nil]; first | done | rfl)) ?_
      refine (calls_of_args (by rw [← HNL2.out]) (colloquyref20_Same.calls ks AA cA L AL2 cL2 L true wA HXA.out.2.2 (by rw [← HNL2.out]; exact HXA.out.2.1) HXB.out.2.2 (by rw [← HNL2.out]; exact HXB.out.2.1) HKS.out)).mono ?_
      rintro x wB ⟨rfl, ⟨qB, hwB⟩⟩
      refine ⟨_, rfl, ?_⟩
      refine hK.out _ _ (by rw [hwB]; exact (blk_cell (blk_below (blk_below HR6.out.l.blk HA.out) (pw_below_drewN (Below.refl _ _) _)) 1).trans rfl) ?_
      clear hK K
      refine held_norm (a' := ?_) ?_ ?_
      rotate_left
      · simp only [Act.put, List.setIfInBounds_toArray, List.set_cons_zero, List.set_cons_succ, Go.Proofs.YtoafbpbnlmcklaaW.PrintLast.i64_w, Go.Proofs.YtoafbpbnlmcklaaW.PrintLast.i32_w]
        rfl
      have HBB := Aside0.mk (show Below w6.heap.size w6 wB by rw [hwB]; exact pw_below_drewN HA.out _)
      clear hwB
      refine held_run (i := 7) (N := (some 11)) rfl rfl rfl (fun K hK => ?_)
      go_simp
      refine hK.out _ _ ((blk_cell (blk_below HR6.out.l.blk HBB.out) 1).trans rfl) ?_
      clear hK K
      refine held_done ?_
      have HLB := Aside0.mk (HL6.out.below HBB.out)
      have HRB := Aside0.mk (HR6.out.below HBB.out)
      have HBz := Aside0.mk (below_then HB6.out HB6.out.size HBB.out)
      have qv2 := blk_cell HRB.out.l.blk 2
      go_wp2_with fail
      go_quiet (first | (go_at_call 13; exact Calls.quiet_of_same (used_walk 66 w.heap.size Wb D u vL L _ (HLB.out.l.below (pw_below_drewN (Below.refl _ _) _)))) | (go_at_call 21; exact Calls.quiet_of_same (waiting_walk w.heap.size D gS _ _ S6 ([] : List (Int × List Int)) _ (HLB.out.d.below (pw_below_drewN (Below.refl _ _) _)))))
      clear qv2
      obtain ⟨wq, hwq⟩ : ∃ wq, wq = wB.drewN nq := ⟨_, rfl⟩
      have HLq := Aside0.mk (show Loose w.heap.size D gS m 0 Wb u A5 cW5 vL S6 [] L wq by rw [hwq]; exact HLB.out.below (pw_below_drewN (Below.refl _ _) _))
      have HBq := Aside0.mk (show Below w.heap.size w wq by rw [hwq]; exact pw_below_drewN HBz.out _)
      rw [← hwq]
      clear hwq
      go_wp2_with fail
      refine (used_walk 66 w.heap.size Wb D u vL L wq HLq.out.l).mono ?_
      rintro x w7 ⟨rfl, rfl⟩
      have HZe := Aside0.mk (show ∀ i, u ≤ i → i < m → readL S6 [] (i : Int) = zeroS from fun i h1 h2 => by
        have hl6 : S6.length = m := HLq.out.p.len
        rw [readL, if_pos ⟨by omega, by omega⟩, readW, Int.toNat_natCast, List.getD_eq_getElem?_getD, HS6.out, cleanF]
        rw [List.getElem?_append_right (by rw [List.length_take]; omega), List.getElem?_replicate, if_pos (by rw [List.length_take, HTl.out]; omega)]
        rfl)
      have HUM := Aside0.mk (show u ≤ m from HLq.out.le)
      go_wp2_with fail
      go_loopg [12] (m - u) (fun kq v12 w' => ∃ (n : Nat), v12 = .int .i64 ((u + n : Nat) : Int) ∧ Aside0 (u + n + kq = m) ∧ Aside0 (Below w7.heap.size w7 w'))
      case atStart => exact ⟨0, rfl, ⟨by have := HUM.out; omega⟩, ⟨Below.refl _ _⟩⟩
      case round =>
        obtain ⟨nn, rfl, HN, HBr⟩ := hrel
        have HLr := Aside0.mk (HLq.out.below HBr.out)
        obtain ⟨iN, hiN⟩ : ∃ iN, iN = u + nn := ⟨_, rfl⟩
        have HiN := Aside0.mk hiN
        rw [← hiN]
        clear hiN
        go_wp2_with fail
        refine (len_m w.heap.size D gS cW5 m 0 A5 S6 [] wr HLr.out.d HLr.out.p).mono ?_
        rintro x w8 ⟨rfl, rfl⟩
        by_cases hlt : iN < m
        · have HLT := Aside0.mk hlt
          have p1 : decide (iN < m) = true := decide_eq_true hlt
          have p2 : decide ((iN : Int) < (m : Int)) = true := decide_eq_true (by omega)
          obtain ⟨k1, rfl⟩ : ∃ k1, gk = k1 + 1 := ⟨gk - 1, by have := HN.out; have := HiN.out; omega⟩
          clear hlt
          go_wp2_with fail
          refine (read_walk w.heap.size D gS cW5 m 0 A5 S6 [] (iN : Int) w8 HLr.out.d HLr.out.p (by decide)).mono ?_
          rintro x w9 ⟨v9, rfl, ho9, hb9⟩
          rw [HZe.out iN (by have := HiN.out; omega) HLT.out] at ho9
          have HB9 := Aside0.mk (below_then HBr.out HBr.out.size hb9)
          have hcv9 : ∀ W, Below w9.heap.size w9 W → (convert 28 9 v9).run Try.prog W = .ok (.string (strOfNums zeroS)) W := fun W hW => own_string (P := Try.prog) Try.underlying28 Try.underlying5 Try.underlying9 (Kd.own_of_R (Kd.R_below ho9 hW))
          have HC9 := Aside0.mk hcv9
          clear ho9 hb9 hcv9
          go_wp2_with fail
          refine wp_region_held (S := fun U => Below w9.heap.size w9 U) none [2, 3, 4] [0, 1, 2, 3, 4] (by kernel_rfl) rfl (by kernel_rfl) (by kernel_rfl) (below_drew (Below.refl _ _)) (fun hHeld => ?_)
          refine held_read (i := 0) (N := (some 118)) (v := ?_) (a' := ?_) rfl rfl rfl (fun _ _ _ h => h) (Or.inl ⟨by rfl, ?_⟩) ?_ ?_
          rotate_left
          · intro w' hS
            go_simp
            with_reducible rfl
          rotate_left
          · simp only [Act.put, List.setIfInBounds_toArray, List.set_cons_zero, List.set_cons_succ, Go.Proofs.YtoafbpbnlmcklaaW.PrintLast.i64_w, Go.Proofs.YtoafbpbnlmcklaaW.PrintLast.i32_w]
            rfl
          refine held_read (i := 1) (N := (some 119)) (v := ?_) (a' := ?_) rfl rfl rfl (fun _ _ _ h => h) (Or.inl ⟨by rfl, ?_⟩) ?_ ?_
          rotate_left
          · intro w' hS
            have z := HC9.out w' hS
            go_simp
            with_reducible rfl
          rotate_left
          · simp only [Act.put, List.setIfInBounds_toArray, List.set_cons_zero, List.set_cons_succ, Go.Proofs.YtoafbpbnlmcklaaW.PrintLast.i64_w, Go.Proofs.YtoafbpbnlmcklaaW.PrintLast.i32_w]
            rfl
          refine held_run (i := 2) (N := (some 120)) rfl rfl rfl (fun K hK => ?_)
          refine Kd.R_make_step (Kd.int .u8) (w0 := w9) w9.heap.size 5 (by rfl) (N := 120) rfl 28 _ _ rfl 16 rfl rfl Try.underlying28 (.int .u8 0) 1 info5 rfl (by decide) (by omega) 0 (ok := fun _ => True) (okp := fun _ => True) rfl (fun _ hk => hk) trivial (by omega) (by omega) (below_drew (Below.refl _ _)) (Nat.le_refl _) ?_
          intro vz wz hoz hbz hgz hnz
          have HBz9 := Aside0.mk (show Below w9.heap.size w9 wz from hbz)
          rw [show List.replicate (16 : Int).toNat (0 : Int) = zeroS from rfl] at hoz
          have hcvz := own_string (P := Try.prog) Try.underlying28 Try.underlying5 Try.underlying9 (Kd.own_of_R hoz)
          clear hoz hbz hgz hnz
          refine hK.out _ _ HBz9.out ?_
          clear hK K
          refine held_norm (a' := ?_) ?_ ?_
          rotate_left
          · simp only [Act.put, List.setIfInBounds_toArray, List.set_cons_zero, List.set_cons_succ, Go.Proofs.YtoafbpbnlmcklaaW.PrintLast.i64_w, Go.Proofs.YtoafbpbnlmcklaaW.PrintLast.i32_w]
            rfl
          refine held_run (i := 3) (N := (some 121)) rfl rfl rfl (fun K hK => ?_)
          go_simp
          refine hK.out _ _ HBz9.out ?_
          clear hK K
          refine held_run (i := 4) (N := (some 122)) rfl rfl rfl (fun K hK => ?_)
          go_simp
          refine hK.out _ _ HBz9.out ?_
          clear hK K
          refine held_done ?_
          go_wp2_with fail
          go_roundg k1
          case measure => omega
          case rel =>
            refine ⟨nn + 1, ?_, ⟨by have := HN.out; omega⟩, ⟨below_then HB9.out HB9.out.size HBz9.out⟩⟩
            exact congrArg (Value.int .i64) (by rw [widx (by have := HLT.out; have := HM.out; omega), HiN.out]; rfl)
        · have hnm : iN = m := by have := HN.out; have := HiN.out; omega
          have p1 : decide (iN < m) = false := decide_eq_false hlt
          have p2 : decide ((iN : Int) < (m : Int)) = false := decide_eq_false (by omega)
          clear hlt hnm
          go_wp2
          go_ret
          exact ⟨rfl, below_then HBq.out HBq.out.size HBr.out⟩
abbrev S42 := S77
abbrev k42 := k77
def okT (l : List S42) : Bool := l.all (fun o => o.f1.all (fun c => decide (0 ≤ c) && decide (c < 256)))
theorem okT_iff {l : List S42} : okT l = true ↔ ∀ o ∈ l, Bs o.f1 := by
  unfold okT Bs
  simp only [List.all_eq_true, Bool.and_eq_true, decide_eq_true_eq]
def colloquylaw20_WalOpens.f (a0 : Int) (l1 : List S42) : Option Bool := if okT l1 = true then some true else none
theorem colloquylaw20_WalOpens.calls (a0 : Int) (A1 : Option Addr) (c1 : Nat) (l1 : List S42) (r : Bool) (w : World) (hr1 : Kd.C k42 w A1 l1.length l1) (hc1 : l1.length ≤ c1) (h : colloquylaw20_WalOpens.f a0 l1 = some r) :
    Calls Try.prog 4 #[.int .i64 a0, .slice A1 l1.length c1] w fun e w' => e = .returned (.bool r) ∧ Below w.heap.size w w' := by
  unfold colloquylaw20_WalOpens.f at h
  by_cases c : okT l1 = true
  · rw [if_pos c] at h
    obtain rfl := Option.some.inj h
    by_cases hn : a0 ≤ 40
    · by_cases hl : l1.length ≤ 60
      · exact WalOpens_in a0 A1 c1 l1 w hr1 hn hl (okT_iff.1 c)
      · exact WalOpens_out2 a0 A1 c1 l1 w hr1 hn (by omega)
    · exact WalOpens_out1 a0 A1 c1 l1 w hr1 (by omega)
  · rw [if_neg c] at h; cases h
end Go.Proofs.Ytoafbpbnlmcklaa.PAll
