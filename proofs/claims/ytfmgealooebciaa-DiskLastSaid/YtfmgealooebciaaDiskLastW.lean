/- DiskLast over the disk in memory. -/
import Derived.Test.YtfmgealooebciaaDiskFew
import Derived.Test.YtfmgealooebciaaStillMid
namespace Go.Proofs.Ytfmgealooebciaa.PAll
open Go.RowKit Go.Proofs.YtfmgealooebciaaW.PrintWords Go.Proofs.YtfmgealooebciaaW.PrintLast Go.Proofs.YtfmgealooebciaaW.PrintMore
set_option linter.unusedVariables false
set_option linter.unusedSimpArgs false
set_option maxHeartbeats 2000000 in
set_option maxRecDepth 100000 in
theorem last_other (n : Int) (A0 : Option Addr) (c0 : Nat) (l : List S33) (at_ : Int) (w : World) (hr0 : Kd.C k33 w A0 l.length l) (hc0 : l.length ≤ c0) (hf : colloquylaw19_few.f 61 l = some false) : Calls Try.prog 7 #[.int .i64 n, .slice A0 l.length c0, .int .i64 at_] w fun x w' => x = .returned (.bool true) ∧ Below w.heap.size w w' := by
  obtain ⟨m1, m, hm1, hm2, hm, hm0⟩ := mm n
  have HR0 := Aside0.mk hr0
  have HM1 := Aside0.mk hm1
  have HM2 := Aside0.mk hm2
  have HF := Aside0.mk hf
  clear hr0 hm1 hm2 hf
  go_enter Try.func7, Try.ntmps7
  go_wp2_with fail
  refine (awake_walk w).mono ?_
  rintro x w1 ⟨rfl, hb1⟩
  have HB1 := Aside0.mk hb1
  clear hb1
  go_wp2_with fail
  refine (colloquylaw19_few.calls 61 A0 c0 l false w1 (Kd.C_below HR0.out HB1.out) hc0 HF.out).mono ?_
  rintro x w2 ⟨rfl, ⟨q2, hw2⟩⟩
  have HB2 := Aside0.mk (show Below w.heap.size w w2 by rw [hw2]; exact pw_below_drewN HB1.out _)
  clear hw2 HB1
  go_wp2_with fail
  refine (new_walk n m1 m w2 HM1.out HM2.out hm).mono ?_
  rintro x w3 ⟨D, gS, rfl, hd3, hb3⟩
  have HB3 := Aside0.mk (below_then HB2.out HB2.out.size hb3)
  clear hd3 hb3
  go_wp2
  go_ret
  exact ⟨rfl, HB3.out⟩
set_option maxHeartbeats 8000000 in
set_option maxRecDepth 100000 in
theorem last_few (n : Int) (A0 : Option Addr) (c0 : Nat) (l : List S33) (at_ : Int) (w : World) (hr0 : Kd.C k33 w A0 l.length l) (hc0 : l.length ≤ c0) (hf : colloquylaw19_few.f 61 l = some true) (hl : l.length ≤ 60) : Calls Try.prog 7 #[.int .i64 n, .slice A0 l.length c0, .int .i64 at_] w fun x w' => x = .returned (.bool true) ∧ Below w.heap.size w w' := by
  obtain ⟨m1, m, hm1, hm2, hm, hm0⟩ := mm n
  have HR0 := Aside0.mk hr0
  have HM1 := Aside0.mk hm1
  have HM2 := Aside0.mk hm2
  have HM := Aside0.mk hm
  have HM0 := Aside0.mk hm0
  have HF := Aside0.mk hf
  have HL := Aside0.mk hl
  clear hr0 hm1 hm2 hm hm0 hf hl
  go_enter Try.func7, Try.ntmps7
  go_wp2_with fail
  refine (awake_walk w).mono ?_
  rintro x w1 ⟨rfl, hb1⟩
  have HB1 := Aside0.mk hb1
  clear hb1
  go_wp2_with fail
  refine (colloquylaw19_few.calls 61 A0 c0 l true w1 (Kd.C_below HR0.out HB1.out) hc0 HF.out).mono ?_
  rintro x w2 ⟨rfl, ⟨q2, hw2⟩⟩
  have HB2 := Aside0.mk (show Below w.heap.size w w2 by rw [hw2]; exact pw_below_drewN HB1.out _)
  clear hw2 HB1
  go_wp2_with fail
  refine (new_walk n m1 m w2 HM1.out HM2.out HM.out).mono ?_
  rintro x w3 ⟨D, gS, rfl, hd3, hb3⟩
  have HD3 := Aside0.mk hd3
  have HB3 := Aside0.mk (below_then HB2.out HB2.out.size hb3)
  have HDD := Aside0.mk (show w.heap.size ≤ w2.heap.size ∧ w.heap.size ≤ D ∧ w.heap.size ≤ gS from ⟨HB2.out.size, Nat.le_trans HB2.out.size hd3.2.1, Nat.le_trans HB2.out.size hd3.2.2.1⟩)
  clear hd3 hb3 HB2
  go_wp2_with fail
  refine (colloquylaw19_ones.calls 30 0 zeroS w3 zero_f).mono ?_
  rintro x w4 ⟨v, rfl, ho, hb4⟩
  obtain ⟨gO, cO, curO, rfl, _, hO, _⟩ := own5 ho (by decide)
  have HO := Aside0.mk hO
  have HCO := Aside0.mk (Kd.R_reads' ho).2.2
  have HD4 := Aside0.mk (HD3.out.below hb4)
  have HB4 := Aside0.mk (below_then HB3.out HB3.out.size hb4)
  clear ho hb4 hO HD3 HB3
  obtain ⟨base, hbase⟩ : ∃ b, b = w2.heap.size := ⟨_, rfl⟩
  rw [← hbase] at HD4 HDD
  clear hbase
  go_wp2
  go_loopg [10, 11] l.length (fun kq v10 v11 w' => ∃ (j : Nat) (Aw : Option Addr) (cw : Nat) (lw : List Int) (S : List (List Int)) (W : List (Int × List Int)) (A : Option Addr) (cW : Nat), v10 = .slice Aw lw.length cw ∧ v11 = .int .i64 (j : Int) ∧ Aside0 (j + kq = l.length) ∧ Aside0 (DiskAt base D gS A cW S W w') ∧ Aside0 (Parts m j S W) ∧ Aside0 (Kd.C (Kd.int .u8) w Aw lw.length lw ∨ (Aw = some ⟨gO, 0, none⟩ ∧ lw = zeroS)) ∧ Aside0 (∀ s, 0 ≤ at_ → S[at_.toNat]? = some s → lw = readW at_ W s) ∧ Aside0 (w'.heap[gO]? = some (.cells curO 5 (0, 0))) ∧ Aside0 (Below w.heap.size w w'))
  case atStart => exact ⟨0, some ⟨gO, 0, none⟩, cO, zeroS, _, [], none, 0, rfl, rfl, ⟨by omega⟩, HD4, ⟨Parts.new m⟩, ⟨.inr ⟨rfl, rfl⟩⟩, ⟨fun s h0 hs => (List.eq_of_mem_replicate (List.mem_of_getElem? hs)).symm⟩, HO, HB4⟩
  case round =>
    obtain ⟨j, Aw, cw, lw, S, W, A, cW, rfl, rfl, HJ, HD, HP, HW, HWA, HOO, HB⟩ := hrel
    by_cases hlt : j < l.length
    · obtain ⟨ad, A2, c2, A3, c3, e, hx0, hx1, hx2, hx3, hx4, hx5, hl2, hi2, hl3, hi3⟩ := at_T33 HR0.out (j : Int) (by omega) (by omega)
      cases e
      obtain ⟨o, ho⟩ : ∃ o, o = rd_T33 l (j : Int) := ⟨_, rfl⟩
      rw [← ho] at hx0 hx1 hx2 hx3 hl2 hi2
      rw [Int.toNat_natCast] at hx0 hx1 hx2
      have HX1 := Aside0.mk hx1
      have HX2 := Aside0.mk hx2
      have HI2 := Aside0.mk hi2
      have HL2 := Aside0.mk hl2
      have HLT := Aside0.mk hlt
      replace hx0 := kfact hx0 HB.out
      replace hx1 := kfact hx1 HB.out
      replace hx2 := kfact hx2 HB.out
      clear ho hx3 hx4 hx5 hl2 hi2 hl3 hi3
      have p1 : decide ((j : Int) < (l.length : Int)) = true := decide_eq_true (by omega)
      have p2 := eq_true (show 0 ≤ (j : Int) by omega)
      have p3 := eq_true (show (j : Int) < (l.length : Int) by omega)
      have HWn := Aside0.mk (show W.length < 1099511627776 by have := HP.out.few; have := HL.out; omega)
      obtain ⟨k1, rfl⟩ : ∃ k1, gk = k1 + 1 := ⟨gk - 1, by have := HJ.out; omega⟩
      clear hlt
      by_cases ck : o.f0 = 1
      · have ckb : (o.f0 == 1) = true := beq_iff_eq.mpr ck
        clear ck
        go_wp2_with fail
        refine (sync_walk base D gS cW A S W wr HD.out (fun p hp => HP.out.val p hp) HWn.out).mono ?_
        rintro x w5 ⟨rfl, hd5, ht5⟩
        have HD5 := Aside0.mk hd5
        have HB5 := Aside0.mk (ht5.bel HB.out HB.out.size HDD.out.2.1 HDD.out.2.2 (fun a ha => Nat.le_trans HDD.out.1 (HD.out.base.2.2.1 a ha)))
        have HO5 := Aside0.mk (ht5.blk5 HD.out HOO.out)
        clear hd5 ht5
        go_wp2
        go_roundg k1
        case measure => omega
        case rel =>
          refine ⟨j + 1, Aw, cw, lw, _, [], _, _, rfl, ?_, ⟨by have := HJ.out; omega⟩, HD5, ⟨HP.out.sync⟩, HW, ⟨fun s h0 hs => ?_⟩, HO5, HB5⟩
          · exact congrArg (Value.int .i64) (widx (by have := HLT.out; have := HL.out; omega))
          · have hs' := hs
            obtain ⟨s0, hs0⟩ : ∃ s0, S[at_.toNat]? = some s0 := ⟨_, List.getElem?_eq_getElem (by have h1 := (List.getElem?_eq_some_iff.1 hs).1; rwa [applyW_len] at h1)⟩
            rw [applyW_get at_ h0 W S s0 (fun p hp => ⟨(HP.out.val p hp).1, (HP.out.val p hp).2.1⟩) hs0] at hs
            rw [HWA.out s0 h0 hs0]
            exact Option.some.inj hs
      · have ckb : (o.f0 == 1) = false := beq_eq_false_iff_ne.mpr ck
        clear ck
        have HDd := Aside0.mk (HD.out.below (below_drew (Below.refl _ _)))
        have HBd := Aside0.mk (below_drew HB.out)
        have hd0 := kfact HX1.out HBd.out
        have hd2 := kfact HX2.out HBd.out
        by_cases cw16 : (decide (o.f1 ≥ 0) = false) ∨ (decide (o.f1 ≥ 0) = true ∧ decide (o.f1 < (S.length : Int)) = false) ∨ (decide (o.f1 ≥ 0) = true ∧ decide (o.f1 < (S.length : Int)) = true ∧ ((o.f2.length : Int) != 16) = true)
        · have HC := Aside0.mk cw16
          clear cw16
          go_wp2_with fail
          refine wp_region_mid 11 (by kernel_rfl) (by kernel_rfl) rfl rfl ?_
          simp only [List.take_succ_cons, List.take_zero, List.drop_succ_cons, List.drop_zero]
          repeat still_step
          try refine wpStill_nil ?_
          intro K HK
          go_simp
          go_at_call 13
          refine (write_no base D gS cW A A2 S W o.f1 o.f2.length c2 _ HDd.out HC.out).mono ?_
          rintro x w5 ⟨rfl, rfl⟩
          refine HK.out _ _ ?_
          clear HK K
          repeat (go_big_quiet_step (fail))
          refine wpQuiet_nil ?_
          intro w' hw'
          obtain ⟨nq, hw''⟩ := hw'
          have HD6 := Aside0.mk (show DiskAt base D gS A cW S W w' by rw [hw'']; exact HDd.out.below (pw_below_drewN (Below.refl _ _) _))
          have HB6 := Aside0.mk (show Below w.heap.size w w' by rw [hw'']; exact pw_below_drewN HBd.out _)
          have HO6 := Aside0.mk (show w'.heap[gO]? = some (.cells curO 5 (0, 0)) by rw [hw'']; exact blk_below (blk_drew HOO.out) (pw_below_drewN (Below.refl _ _) _))
          clear hw''
          go_wp2
          go_roundg k1
          case measure => omega
          case rel =>
            refine ⟨j + 1, Aw, cw, lw, S, W, A, cW, rfl, ?_, ⟨by have := HJ.out; omega⟩, HD6, ⟨HP.out.mono (by omega)⟩, HW, HWA, HO6, HB6⟩
            exact congrArg (Value.int .i64) (widx (by have := HLT.out; have := HL.out; omega))
        · obtain ⟨w0, w1', w2'⟩ : 0 ≤ o.f1 ∧ o.f1 < (S.length : Int) ∧ o.f2.length = 16 := by
            by_cases c0 : 0 ≤ o.f1
            · by_cases c1 : o.f1 < (S.length : Int)
              · by_cases c2 : o.f2.length = 16
                · exact ⟨c0, c1, c2⟩
                · exact absurd (.inr (.inr ⟨decide_eq_true c0, decide_eq_true c1, bne_iff_ne.mpr (by omega)⟩)) cw16
              · exact absurd (.inr (.inl ⟨decide_eq_true c0, decide_eq_false c1⟩)) cw16
            · exact absurd (.inl (decide_eq_false c0)) cw16
          clear cw16
          rw [w2'] at hx2 hd2 HL2
          obtain ⟨x0, x1, x2, x3, x4, x5, x6, x7, x8, x9, x10, x11, x12, x13, x14, x15, hB⟩ := len16 w2'
          rw [hB] at HI2
          obtain ⟨ad2, eA2, _⟩ := HI2.out.2.2 (by simp)
          subst eA2
          have HBO := Aside0.mk hB
          have HC2 := Aside0.mk (C_cells (Kd.C_below HI2.out HBd.out))
          have HV := Aside0.mk (And.intro w0 w1')
          have wa := decide_eq_true w0
          have wb := decide_eq_true w1'
          have WA := Aside0.mk wa
          have WB := Aside0.mk wb
          clear w0 w1' w2' hB wa wb
          by_cases ce : o.f1 = at_
          · have ceb : (o.f1 == at_) = true := beq_iff_eq.mpr ce
            have HE := Aside0.mk ce
            clear ce
            go_wp2_with fail
            refine wp_region_mid 11 (by kernel_rfl) (by kernel_rfl) rfl rfl ?_
            simp only [List.take_succ_cons, List.take_zero, List.drop_succ_cons, List.drop_zero]
            repeat still_step
            try refine wpStill_nil ?_
            intro K HK
            go_simp
            go_at_call 13
            refine (write_yes base D gS cW A S W o.f1 x0 x1 x2 x3 x4 x5 x6 x7 x8 x9 x10 x11 x12 x13 x14 x15 ad2 c2 _ HDd.out WA.out WB.out HWn.out HL2.out HC2.out).mono ?_
            rintro x w5 ⟨rfl, A5, cW5, hd5, ht5, _⟩
            have HD5 := Aside0.mk hd5
            have HB5 := Aside0.mk (ht5.bel HBd.out HBd.out.size HDD.out.2.1 HDD.out.2.2 (fun a ha => Nat.le_trans HDD.out.1 (HDd.out.base.2.2.1 a ha)))
            have HO5 := Aside0.mk (ht5.blk5 HDd.out (blk_drew HOO.out))
            clear hd5 ht5 hx0 hx1 hx2 hd0 hd2
            have y1 := fun q => kfact HX1.out (pw_below_drewN HB5.out q)
            have y2 := fun q => kfact HX2.out (pw_below_drewN HB5.out q)
            refine HK.out _ _ ?_
            clear HK K
            repeat (go_big_quiet_step (fail))
            refine wpQuiet_nil ?_
            intro w' hw'
            obtain ⟨nq, hw''⟩ := hw'
            have HD6 := Aside0.mk (show DiskAt base D gS A5 cW5 S (W ++ [(o.f1, [x0, x1, x2, x3, x4, x5, x6, x7, x8, x9, x10, x11, x12, x13, x14, x15])]) w' by rw [hw'']; exact HD5.out.below (pw_below_drewN (Below.refl _ _) _))
            have HB6 := Aside0.mk (show Below w.heap.size w w' by rw [hw'']; exact pw_below_drewN HB5.out _)
            have HO6 := Aside0.mk (show w'.heap[gO]? = some (.cells curO 5 (0, 0)) by rw [hw'']; exact blk_below HO5.out (pw_below_drewN (Below.refl _ _) _))
            clear hw'' y1 y2
            have y1 := kfact HX1.out HB6.out
            have y2 := kfact HX2.out HB6.out
            go_wp2
            go_roundg k1
            case measure => omega
            case rel =>
              refine ⟨j + 1, some ad2, c2, [x0, x1, x2, x3, x4, x5, x6, x7, x8, x9, x10, x11, x12, x13, x14, x15], S, _, _, _, congrArg (fun n => Value.slice (some ad2) n c2) (congrArg List.length HBO.out), ?_, ⟨by have := HJ.out; omega⟩, HD6, ⟨HP.out.write o.f1 _ HV.out.1 HV.out.2 rfl⟩, ⟨.inl HI2.out⟩, ⟨fun s h0 hs => ?_⟩, HO6, HB6⟩
              · exact congrArg (Value.int .i64) (widx (by have := HLT.out; have := HL.out; omega))
              · rw [readW_append, if_pos HE.out]
          · have ceb : (o.f1 == at_) = false := beq_eq_false_iff_ne.mpr ce
            have HE := Aside0.mk ce
            clear ce
            go_wp2_with fail
            refine wp_region_mid 11 (by kernel_rfl) (by kernel_rfl) rfl rfl ?_
            simp only [List.take_succ_cons, List.take_zero, List.drop_succ_cons, List.drop_zero]
            repeat still_step
            try refine wpStill_nil ?_
            intro K HK
            go_simp
            go_at_call 13
            refine (write_yes base D gS cW A S W o.f1 x0 x1 x2 x3 x4 x5 x6 x7 x8 x9 x10 x11 x12 x13 x14 x15 ad2 c2 _ HDd.out WA.out WB.out HWn.out HL2.out HC2.out).mono ?_
            rintro x w5 ⟨rfl, A5, cW5, hd5, ht5, _⟩
            have HD5 := Aside0.mk hd5
            have HB5 := Aside0.mk (ht5.bel HBd.out HBd.out.size HDD.out.2.1 HDD.out.2.2 (fun a ha => Nat.le_trans HDD.out.1 (HDd.out.base.2.2.1 a ha)))
            have HO5 := Aside0.mk (ht5.blk5 HDd.out (blk_drew HOO.out))
            clear hd5 ht5 hx0 hx1 hx2 hd0 hd2
            have y1 := fun q => kfact HX1.out (pw_below_drewN HB5.out q)
            have y2 := fun q => kfact HX2.out (pw_below_drewN HB5.out q)
            refine HK.out _ _ ?_
            clear HK K
            repeat (go_big_quiet_step (fail))
            refine wpQuiet_nil ?_
            intro w' hw'
            obtain ⟨nq, hw''⟩ := hw'
            have HD6 := Aside0.mk (show DiskAt base D gS A5 cW5 S (W ++ [(o.f1, [x0, x1, x2, x3, x4, x5, x6, x7, x8, x9, x10, x11, x12, x13, x14, x15])]) w' by rw [hw'']; exact HD5.out.below (pw_below_drewN (Below.refl _ _) _))
            have HB6 := Aside0.mk (show Below w.heap.size w w' by rw [hw'']; exact pw_below_drewN HB5.out _)
            have HO6 := Aside0.mk (show w'.heap[gO]? = some (.cells curO 5 (0, 0)) by rw [hw'']; exact blk_below HO5.out (pw_below_drewN (Below.refl _ _) _))
            clear hw'' y1 y2
            have y1 := kfact HX1.out HB6.out
            have y2 := kfact HX2.out HB6.out
            go_wp2
            go_roundg k1
            case measure => omega
            case rel =>
              refine ⟨j + 1, Aw, cw, lw, S, _, _, _, rfl, ?_, ⟨by have := HJ.out; omega⟩, HD6, ⟨HP.out.write o.f1 _ HV.out.1 HV.out.2 rfl⟩, HW, ⟨fun s h0 hs => ?_⟩, HO6, HB6⟩
              · exact congrArg (Value.int .i64) (widx (by have := HLT.out; have := HL.out; omega))
              · rw [readW_append, if_neg HE.out]
                exact HWA.out s h0 hs
    · obtain rfl : j = l.length := by have := HJ.out; omega
      have p1 : decide ((l.length : Int) < (l.length : Int)) = false := decide_eq_false (by omega)
      clear hlt
      have HWC := Aside0.mk (show Kd.C (Kd.int .u8) wr Aw lw.length lw by
        rcases HW.out with h | ⟨h1, h2⟩
        · exact Kd.C_below h HB.out
        · rw [h1, h2]; exact C_blk HCO.out HO.out HOO.out)
      by_cases c0' : 0 ≤ at_
      · by_cases c1' : at_ < (S.length : Int)
        · obtain ⟨s, hs⟩ : ∃ s, S[at_.toNat]? = some s := ⟨_, List.getElem?_eq_getElem (by omega)⟩
          have HS := Aside0.mk hs
          have HWE := Aside0.mk (HWA.out s c0' hs)
          have d0 := decide_eq_true c0'
          have d1 := decide_eq_true c1'
          clear hs c0' c1'
          go_wp2_with fail
          refine (read_yes base D gS cW A S W at_ s wr HD.out d0 d1 HS.out (HP.out.s16 s (List.mem_of_getElem? HS.out)) (by have := HP.out.few; have := HL.out; omega) (fun p hp => (HP.out.val p hp).2.2)).mono ?_
          rintro x w7 ⟨v7, rfl, ho7, hb7⟩
          have HB7 := Aside0.mk (below_then HB.out HB.out.size hb7)
          have hcvR := own_string (P := Try.prog) Try.underlying30 Try.underlying5 Try.underlying9 (Kd.own_of_R ho7)
          have hcvW := Kd.C_string (P := Try.prog) Try.underlying30 Try.underlying5 Try.underlying9 (c := cw) (Kd.C_below HWC.out hb7)
          rw [← HWE.out] at hcvR
          clear ho7 hb7
          go_wp2_with fail
          go_ret
          exact ⟨rfl, HB7.out⟩
        · have d0 := decide_eq_true c0'
          have d1 := decide_eq_false c1'
          have e0 : decide (at_ < 0) = false := decide_eq_false (by omega)
          have e1 : decide (at_ ≥ (S.length : Int)) = true := decide_eq_true (by omega)
          clear c0' c1'
          go_wp2_with fail
          refine (read_no base D gS cW A S W at_ wr HD.out (.inr ⟨d0, d1⟩)).mono ?_
          rintro x w7 ⟨rfl, rfl⟩
          go_wp2_with fail
          refine (len_walk base D gS cW A S W w7 HD.out).mono ?_
          rintro x w8 ⟨rfl, rfl⟩
          go_wp2_with fail
          go_ret
          exact ⟨rfl, HB.out⟩
      · have d0 := decide_eq_false c0'
        have e0 : decide (at_ < 0) = true := decide_eq_true (by omega)
        clear c0'
        go_wp2_with fail
        refine (read_no base D gS cW A S W at_ wr HD.out (.inl d0)).mono ?_
        rintro x w7 ⟨rfl, rfl⟩
        go_wp2_with fail
        go_ret
        exact ⟨rfl, HB.out⟩
def colloquylaw19_DiskLast.f (a0 : Int) (l1 : List S33) (a2 : Int) : Option Bool := some true
theorem colloquylaw19_DiskLast.calls (a0 : Int) (A1 : Option Addr) (c1 : Nat) (l1 : List S33) (a2 : Int) (r : Bool) (w : World) (hr1 : Kd.C k33 w A1 l1.length l1) (hc1 : l1.length ≤ c1) (h : colloquylaw19_DiskLast.f a0 l1 a2 = some r) :
    Calls Try.prog 7 #[.int .i64 a0, .slice A1 l1.length c1, .int .i64 a2] w fun e w' => e = .returned (.bool r) ∧ Below w.heap.size w w' := by
  obtain rfl := Option.some.inj h
  obtain ⟨b, hb, hh⟩ := few_total l1
  cases b with
  | false => exact last_other a0 A1 c1 l1 a2 w hr1 hc1 hb
  | true => exact last_few a0 A1 c1 l1 a2 w hr1 hc1 hb (hh rfl).1
end Go.Proofs.Ytfmgealooebciaa.PAll
