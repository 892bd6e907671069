/- DiskSynced over the disk in memory. Printed by wip/tools/gensynced.py. -/
import Derived.Test.YtfmgealooebciaaDiskFacts
import Derived.StillTailTactics
namespace Go.Proofs.Ytfmgealooebciaa.PAll
open Go.RowKit Go.Proofs.YtfmgealooebciaaW.PrintWords Go.Proofs.YtfmgealooebciaaW.PrintLast Go.Proofs.YtfmgealooebciaaW.PrintMore
set_option linter.unusedVariables false
set_option linter.unusedSimpArgs false
theorem apply_one {m : Nat} {at_ : Int} {b : List Int} (h0 : 0 ≤ at_) (h1 : at_ < (m : Int)) : (applyW (List.replicate m zeroS) [(at_, b)])[at_.toNat]? = some b := by
  show ((List.replicate m zeroS).set at_.toNat b)[at_.toNat]? = some b
  exact List.getElem?_set_self (by rw [List.length_replicate]; omega)
set_option maxHeartbeats 2000000 in
set_option maxRecDepth 100000 in
theorem synced_other (n at_ : Int) (A2 : Option Addr) (c2 nb : Nat) (A3 : Option Addr) (c3 : Nat) (l : List S33) (w : World) (ok : Bool) (hr3 : Kd.C k33 w A3 l.length l) (hc3 : l.length ≤ c3) (hf : colloquylaw19_few.f 61 l = some ok) (hb : ok = false ∨ (ok = true ∧ decide ((nb : Int) > 40) = true)) :
    Calls Try.prog 4 #[.int .i64 n, .int .i64 at_, .slice A2 nb c2, .slice A3 l.length c3] w fun x w' => x = .returned (.bool true) ∧ Below w.heap.size w w' := by
  obtain ⟨m1, m, hm1, hm2, hm, hm0⟩ := mm n
  have HR0 := Aside0.mk hr3
  have HM1 := Aside0.mk hm1
  have HM2 := Aside0.mk hm2
  have HF := Aside0.mk hf
  clear hr3 hm1 hm2 hf
  go_enter Try.func4, Try.ntmps4
  go_wp2_with fail
  refine (awake_walk w).mono ?_
  rintro x w1 ⟨rfl, hb1⟩
  have HB1 := Aside0.mk hb1
  clear hb1
  go_wp2_with fail
  refine (colloquylaw19_few.calls 61 A3 c3 l ok w1 (Kd.C_below HR0.out HB1.out) hc3 HF.out).mono ?_
  rintro x w2 ⟨rfl, ⟨q2, hw2⟩⟩
  have HB2 := Aside0.mk (show Below w.heap.size w w2 by rw [hw2]; exact pw_below_drewN HB1.out _)
  clear hw2 HB1
  go_wp2_with fail
  refine (new_walk n m1 m w2 HM1.out HM2.out hm).mono ?_
  rintro x w3 ⟨D, gS, rfl, hd3, hb3⟩
  have HB3 := Aside0.mk (below_then HB2.out HB2.out.size hb3)
  clear hd3 hb3
  rcases hb with rfl | ⟨rfl, hb⟩
  all_goals
    go_wp2
    go_ret
    exact ⟨rfl, HB3.out⟩
set_option maxHeartbeats 8000000 in
set_option maxRecDepth 100000 in
theorem synced_no (n at_ : Int) (A2 : Option Addr) (c2 nb : Nat) (A3 : Option Addr) (c3 : Nat) (l : List S33) (w : World) (hr3 : Kd.C k33 w A3 l.length l) (hc3 : l.length ≤ c3) (hf : colloquylaw19_few.f 61 l = some true) (hb : decide ((nb : Int) > 40) = false) (m1 : Int) (m : Nat) (hm1 : (if n < 1 then (1 : Int) else n) = m1) (hm2 : (if 512 < m1 then (512 : Int) else m1) = (m : Int)) (hm : m ≤ 512)
    (hi : (decide (at_ ≥ 0) = false) ∨ (decide (at_ ≥ 0) = true ∧ decide (at_ < (m : Int)) = false) ∨ (decide (at_ ≥ 0) = true ∧ decide (at_ < (m : Int)) = true ∧ ((nb : Int) != 16) = true)) :
    Calls Try.prog 4 #[.int .i64 n, .int .i64 at_, .slice A2 nb c2, .slice A3 l.length c3] w fun x w' => x = .returned (.bool true) ∧ Below w.heap.size w w' := by
  have HR0 := Aside0.mk hr3
  have HM1 := Aside0.mk hm1
  have HM2 := Aside0.mk hm2
  have HF := Aside0.mk hf
  have HI := Aside0.mk hi
  clear hr3 hm1 hm2 hf hi
  go_enter Try.func4, Try.ntmps4
  go_wp2_with fail
  refine (awake_walk w).mono ?_
  rintro x w1 ⟨rfl, hb1⟩
  have HB1 := Aside0.mk hb1
  clear hb1
  go_wp2_with fail
  refine (colloquylaw19_few.calls 61 A3 c3 l true w1 (Kd.C_below HR0.out HB1.out) hc3 HF.out).mono ?_
  rintro x w2 ⟨rfl, ⟨q2, hw2⟩⟩
  have HB2 := Aside0.mk (show Below w.heap.size w w2 by rw [hw2]; exact pw_below_drewN HB1.out _)
  clear hw2 HB1
  go_wp2_with fail
  refine (new_walk n m1 m w2 HM1.out HM2.out hm).mono ?_
  rintro x w3 ⟨D, gS, rfl, hd3, hb3⟩
  have HD3 := Aside0.mk hd3
  have HB3 := Aside0.mk (below_then HB2.out HB2.out.size hb3)
  clear hd3 hb3
  go_wp2_with fail
  refine (write_no w2.heap.size D gS 0 none A2 (List.replicate m zeroS) [] at_ nb c2 w3 HD3.out (by rw [List.length_replicate]; exact HI.out)).mono ?_
  rintro x w4 ⟨rfl, rfl⟩
  go_wp2
  go_ret
  exact ⟨rfl, HB3.out⟩
set_option maxHeartbeats 16000000 in
set_option maxRecDepth 100000 in
theorem synced_yes (n at_ : Int) (ad2 : Addr) (c2 : Nat) (b : List Int) (y0 y1 y2 y3 y4 y5 y6 y7 y8 y9 y10 y11 y12 y13 y14 y15 : Int) (hbl : b = [y0, y1, y2, y3, y4, y5, y6, y7, y8, y9, y10, y11, y12, y13, y14, y15]) (A3 : Option Addr) (c3 : Nat) (l : List S33) (w : World) (hr2 : Kd.C (Kd.int .u8) w (some ad2) 16 b) (hc2 : 16 ≤ c2) (hr3 : Kd.C k33 w A3 l.length l) (hc3 : l.length ≤ c3) (hf : colloquylaw19_few.f 61 l = some true) (hl : l.length ≤ 60) (m1 : Int) (m : Nat) (hm1 : (if n < 1 then (1 : Int) else n) = m1) (hm2 : (if 512 < m1 then (512 : Int) else m1) = (m : Int)) (hm : m ≤ 512) (h0 : 0 ≤ at_) (h1 : at_ < (m : Int)) :
    Calls Try.prog 4 #[.int .i64 n, .int .i64 at_, .slice (some ad2) 16 c2, .slice A3 l.length c3] w fun x w' => x = .returned (.bool true) ∧ Below w.heap.size w w' := by
  have HR0 := Aside0.mk hr3
  have HR2 := Aside0.mk hr2
  have HM1 := Aside0.mk hm1
  have HM2 := Aside0.mk hm2
  have HM := Aside0.mk hm
  have HF := Aside0.mk hf
  have HL := Aside0.mk hl
  have HV := Aside0.mk (And.intro h0 h1)
  have HBY := Aside0.mk hbl
  have HBL := Aside0.mk (show b.length = 16 by rw [hbl]; rfl)
  clear hr2 hr3 hm1 hm2 hm hf hl h0 h1 hbl
  go_enter Try.func4, Try.ntmps4
  go_wp2_with fail
  refine (awake_walk w).mono ?_
  rintro x w1 ⟨rfl, hb1⟩
  have HB1 := Aside0.mk hb1
  clear hb1
  go_wp2_with fail
  refine (colloquylaw19_few.calls 61 A3 c3 l true w1 (Kd.C_below HR0.out HB1.out) hc3 HF.out).mono ?_
  rintro x w2 ⟨rfl, ⟨q2, hw2⟩⟩
  have HB2 := Aside0.mk (show Below w.heap.size w w2 by rw [hw2]; exact pw_below_drewN HB1.out _)
  clear hw2 HB1
  go_wp2_with fail
  refine (new_walk n m1 m w2 HM1.out HM2.out HM.out).mono ?_
  rintro x w3 ⟨D, gS, rfl, hd3, hb3⟩
  have HD3 := Aside0.mk hd3
  have HB3 := Aside0.mk (below_then HB2.out HB2.out.size hb3)
  have HDD := Aside0.mk (show w.heap.size ≤ w2.heap.size ∧ w.heap.size ≤ D ∧ w.heap.size ≤ gS from ⟨HB2.out.size, Nat.le_trans HB2.out.size hd3.2.1, Nat.le_trans HB2.out.size hd3.2.2.1⟩)
  clear hd3 hb3 HB2
  obtain ⟨base, hbase⟩ : ∃ b, b = w2.heap.size := ⟨_, rfl⟩
  rw [← hbase] at HD3 HDD
  clear hbase
  go_wp2_with fail
  refine (write_yes base D gS 0 none (List.replicate m zeroS) [] at_ y0 y1 y2 y3 y4 y5 y6 y7 y8 y9 y10 y11 y12 y13 y14 y15 ad2 c2 w3 HD3.out (decide_eq_true HV.out.1) (decide_eq_true (by rw [List.length_replicate]; exact HV.out.2)) (by decide) hc2 (by rw [← HBY.out]; exact C_cells (Kd.C_below HR2.out HB3.out))).mono ?_
  rintro x w4 ⟨rfl, A4, cW4, hd4, ht4, _⟩
  have HD4 := Aside0.mk (show DiskAt base D gS A4 cW4 (List.replicate m zeroS) [(at_, b)] w4 by rw [HBY.out]; exact hd4)
  have HB4 := Aside0.mk (ht4.bel HB3.out HB3.out.size HDD.out.2.1 HDD.out.2.2 (fun a ha => by cases ha))
  clear hd4 ht4 HD3 HB3
  go_wp2_with fail
  refine (sync_walk base D gS cW4 A4 (List.replicate m zeroS) [(at_, b)] w4 HD4.out (fun p hp => by rw [List.mem_singleton] at hp; subst hp; exact ⟨HV.out.1, by rw [List.length_replicate]; exact HV.out.2, HBL.out⟩) (by simp)).mono ?_
  rintro x w5 ⟨rfl, hd5, ht5⟩
  have HP5 := Aside0.mk (((Parts.new m).write at_ b HV.out.1 (by rw [List.length_replicate]; exact HV.out.2) HBL.out).sync)
  have HA5 := Aside0.mk (apply_one (b := b) HV.out.1 HV.out.2)
  obtain ⟨S5, hS5⟩ : ∃ S5, S5 = applyW (List.replicate m zeroS) [(at_, b)] := ⟨_, rfl⟩
  have HP5' := Aside0.mk (show Parts m 2 S5 [] by rw [hS5]; exact HP5.out)
  have HA5' := Aside0.mk (show S5[at_.toNat]? = some b by rw [hS5]; exact HA5.out)
  rw [← hS5] at hd5
  have HD5 := Aside0.mk hd5
  have HB5 := Aside0.mk (ht5.bel HB4.out HB4.out.size HDD.out.2.1 HDD.out.2.2 (fun a ha => Nat.le_trans HDD.out.1 (HD4.out.base.2.2.1 a ha)))
  clear hd5 ht5 HD4 HB4 hS5 HP5 HA5
  go_wp2
  go_loopg [12] l.length (fun kq v12 w' => ∃ (j : Nat) (S : List (List Int)) (W : List (Int × List Int)) (A : Option Addr) (cW : Nat), v12 = .int .i64 (j : Int) ∧ Aside0 (j + kq = l.length) ∧ Aside0 (DiskAt base D gS A cW S W w') ∧ Aside0 (Parts m (j + 2) S W) ∧ Aside0 (S[at_.toNat]? = some b ∧ ∀ p ∈ W, p.1 ≠ at_) ∧ Aside0 (Below w.heap.size w w'))
  case atStart => exact ⟨0, S5, [], A4, cW4, rfl, ⟨by omega⟩, HD5, HP5', ⟨HA5'.out, by simp⟩, HB5⟩
  case round =>
    obtain ⟨j, S, W, A, cW, rfl, HJ, HD, HP, HAT, HB⟩ := hrel
    by_cases hlt : j < l.length
    · obtain ⟨ad, AB, cB, AK, cK, e, hx0, hx1, hx2, hx3, hx4, hx5, hlB, hiB, hlK, hiK⟩ := at_T33 HR0.out (j : Int) (by omega) (by omega)
      cases e
      obtain ⟨o, ho⟩ : ∃ o, o = rd_T33 l (j : Int) := ⟨_, rfl⟩
      rw [← ho] at hx0 hx1 hx2 hx3 hx4 hx5 hlB hiB hlK hiK
      rw [Int.toNat_natCast] at hx0 hx1 hx2 hx3 hx4 hx5
      have HIB := Aside0.mk hiB
      have HLB := Aside0.mk hlB
      have HIK := Aside0.mk hiK
      have HLK := Aside0.mk hlK
      have HLT := Aside0.mk hlt
      have HBd := Aside0.mk (below_drew HB.out)
      have hd1 := kfact hx1 HBd.out
      have hd2 := kfact hx2 HBd.out
      have hd3 := kfact hx3 HBd.out
      have hd4 := kfact hx4 HBd.out
      have hd5 := kfact hx5 HBd.out
      replace hx0 := kfact hx0 HB.out
      replace hx1 := kfact hx1 HB.out
      clear ho hx2 hx3 hx4 hx5 hlB hiB hlK hiK
      have p1 : decide ((j : Int) < (l.length : Int)) = true := decide_eq_true (by omega)
      have p2 := eq_true (show 0 ≤ (j : Int) by omega)
      have p3 := eq_true (show (j : Int) < (l.length : Int) by omega)
      have HWn := Aside0.mk (show W.length < 1099511627776 by have := HP.out.few; have := HL.out; omega)
      have HDd := Aside0.mk (HD.out.below (below_drew (Below.refl _ _)))
      obtain ⟨k1, rfl⟩ : ∃ k1, gk = k1 + 1 := ⟨gk - 1, by have := HJ.out; omega⟩
      clear hlt
      by_cases ck : o.f0 = 0
      · have ckb : (o.f0 == 0) = true := beq_iff_eq.mpr ck
        clear ck
        by_cases ce : o.f1 = at_
        · have ceb : (o.f1 != at_) = false := bne_eq_false_iff_eq.mpr ce
          clear ce
          obtain ⟨w6, hw6⟩ : ∃ w6, w6 = wr := ⟨_, rfl⟩
          subst hw6
          have HD6 := HD
          have HB6 := HB
          have HP6 := Aside0.mk (HP.out.mono (Nat.le_succ _))
          have HAT6 := HAT
          go_wp2_with fail
          refine (read_yes base D gS _ _ _ _ at_ b w6 HD6.out (decide_eq_true HV.out.1) (decide_eq_true (by have := HP6.out.len; have := HV.out.2; omega)) HAT6.out.1 HBL.out (by have := HP6.out.few; have := HL.out; have := HLT.out; omega) (fun p hp => (HP6.out.val p hp).2.2)).mono ?_
          rintro x w7 ⟨v7, rfl, ho7, hb7⟩
          have HB7 := Aside0.mk (below_then HB6.out HB6.out.size hb7)
          have HD7 := Aside0.mk (HD6.out.below hb7)
          rw [readW_ne at_ _ _ HAT6.out.2] at ho7
          have hcvR := own_string (P := Try.prog) Try.underlying30 Try.underlying5 Try.underlying9 (Kd.own_of_R ho7)
          have hcvW := Kd.C_string (P := Try.prog) Try.underlying30 Try.underlying5 Try.underlying9 (c := c2) (Kd.C_below HR2.out HB7.out)
          clear ho7 hb7
          go_wp2_with fail
          go_roundg k1
          case measure => omega
          case rel =>
            refine ⟨j + 1, _, _, _, _, ?_, ⟨by have := HJ.out; omega⟩, HD7, HP6, HAT6, HB7⟩
            exact congrArg (Value.int .i64) (widx (by have := HLT.out; have := HL.out; omega))
        · have ceb : (o.f1 != at_) = true := bne_iff_ne.mpr ce
          have HE := Aside0.mk ce
          clear ce
          by_cases cw16 : (decide (o.f1 ≥ 0) = false) ∨ (decide (o.f1 ≥ 0) = true ∧ decide (o.f1 < (S.length : Int)) = false) ∨ (decide (o.f1 ≥ 0) = true ∧ decide (o.f1 < (S.length : Int)) = true ∧ ((o.f2.length : Int) != 16) = true)
          · have HC := Aside0.mk cw16
            clear cw16
            go_wp2_with fail
            go_still_tail 11, (by kernel_rfl)
            change wpList _ _ _ _ _ wr.drew
            go_wp2_with fail
            refine (write_no base D gS cW A AB S W o.f1 o.f2.length cB _ HDd.out HC.out).mono ?_
            rintro x w6 ⟨rfl, rfl⟩
            obtain ⟨w6, hw6⟩ : ∃ w6, w6 = wr.drew := ⟨_, rfl⟩
            rw [← hw6]
            have HD6 := Aside0.mk (show DiskAt base D gS A cW S W w6 by rw [hw6]; exact HDd.out)
            have HB6 := Aside0.mk (show Below w.heap.size w w6 by rw [hw6]; exact HBd.out)
            have HP6 := Aside0.mk (HP.out.mono (Nat.le_succ _))
            have HAT6 := HAT
            clear hw6
            go_wp2_with fail
            refine (read_yes base D gS _ _ _ _ at_ b w6 HD6.out (decide_eq_true HV.out.1) (decide_eq_true (by have := HP6.out.len; have := HV.out.2; omega)) HAT6.out.1 HBL.out (by have := HP6.out.few; have := HL.out; have := HLT.out; omega) (fun p hp => (HP6.out.val p hp).2.2)).mono ?_
            rintro x w7 ⟨v7, rfl, ho7, hb7⟩
            have HB7 := Aside0.mk (below_then HB6.out HB6.out.size hb7)
            have HD7 := Aside0.mk (HD6.out.below hb7)
            rw [readW_ne at_ _ _ HAT6.out.2] at ho7
            have hcvR := own_string (P := Try.prog) Try.underlying30 Try.underlying5 Try.underlying9 (Kd.own_of_R ho7)
            have hcvW := Kd.C_string (P := Try.prog) Try.underlying30 Try.underlying5 Try.underlying9 (c := c2) (Kd.C_below HR2.out HB7.out)
            clear ho7 hb7
            go_wp2_with fail
            go_roundg k1
            case measure => omega
            case rel =>
              refine ⟨j + 1, _, _, _, _, ?_, ⟨by have := HJ.out; omega⟩, HD7, HP6, HAT6, HB7⟩
              exact congrArg (Value.int .i64) (widx (by have := HLT.out; have := HL.out; omega))
          · obtain ⟨u0, u1, u2⟩ : 0 ≤ o.f1 ∧ o.f1 < (S.length : Int) ∧ o.f2.length = 16 := by
              by_cases c0 : 0 ≤ o.f1
              · by_cases c1 : o.f1 < (S.length : Int)
                · by_cases c2 : o.f2.length = 16
                  · exact ⟨c0, c1, c2⟩
                  · exact absurd (.inr (.inr ⟨decide_eq_true c0, decide_eq_true c1, bne_iff_ne.mpr (by omega)⟩)) cw16
                · exact absurd (.inr (.inl ⟨decide_eq_true c0, decide_eq_false c1⟩)) cw16
              · exact absurd (.inl (decide_eq_false c0)) cw16
            clear cw16
            rw [u2] at hd2 HLB
            obtain ⟨x0, x1, x2, x3, x4, x5, x6, x7, x8, x9, x10, x11, x12, x13, x14, x15, hB⟩ := len16 u2
            rw [hB] at HIB
            obtain ⟨adB, eAB, _⟩ := HIB.out.2.2 (by simp)
            subst eAB
            have HCB := Aside0.mk (C_cells (Kd.C_below HIB.out HBd.out))
            have HU := Aside0.mk (And.intro u0 u1)
            clear u0 u1 u2 hB
            go_wp2_with fail
            go_still_tail 11, (by kernel_rfl)
            change wpList _ _ _ _ _ wr.drew
            go_wp2_with fail
            refine (write_yes base D gS cW A S W o.f1 x0 x1 x2 x3 x4 x5 x6 x7 x8 x9 x10 x11 x12 x13 x14 x15 adB cB _ HDd.out (decide_eq_true HU.out.1) (decide_eq_true HU.out.2) HWn.out HLB.out HCB.out).mono ?_
            rintro x w6 ⟨rfl, A6, cW6, hd6, ht6, _⟩
            have HD6 := Aside0.mk hd6
            have HB6 := Aside0.mk (ht6.bel HBd.out HBd.out.size HDD.out.2.1 HDD.out.2.2 (fun a ha => Nat.le_trans HDD.out.1 (HDd.out.base.2.2.1 a ha)))
            clear hd6 ht6
            have HP6 := Aside0.mk (HP.out.write o.f1 [x0, x1, x2, x3, x4, x5, x6, x7, x8, x9, x10, x11, x12, x13, x14, x15] HU.out.1 HU.out.2 rfl)
            have HAT6 := Aside0.mk (show S[at_.toNat]? = some b ∧ ∀ p ∈ W ++ [(o.f1, [x0, x1, x2, x3, x4, x5, x6, x7, x8, x9, x10, x11, x12, x13, x14, x15])], p.1 ≠ at_ from ⟨HAT.out.1, fun p hp => by rcases List.mem_append.1 hp with hp | hp; exact HAT.out.2 p hp; rw [List.mem_singleton] at hp; subst hp; exact HE.out⟩)
            go_wp2_with fail
            refine (read_yes base D gS _ _ _ _ at_ b w6 HD6.out (decide_eq_true HV.out.1) (decide_eq_true (by have := HP6.out.len; have := HV.out.2; omega)) HAT6.out.1 HBL.out (by have := HP6.out.few; have := HL.out; have := HLT.out; omega) (fun p hp => (HP6.out.val p hp).2.2)).mono ?_
            rintro x w7 ⟨v7, rfl, ho7, hb7⟩
            have HB7 := Aside0.mk (below_then HB6.out HB6.out.size hb7)
            have HD7 := Aside0.mk (HD6.out.below hb7)
            rw [readW_ne at_ _ _ HAT6.out.2] at ho7
            have hcvR := own_string (P := Try.prog) Try.underlying30 Try.underlying5 Try.underlying9 (Kd.own_of_R ho7)
            have hcvW := Kd.C_string (P := Try.prog) Try.underlying30 Try.underlying5 Try.underlying9 (c := c2) (Kd.C_below HR2.out HB7.out)
            clear ho7 hb7
            go_wp2_with fail
            go_roundg k1
            case measure => omega
            case rel =>
              refine ⟨j + 1, _, _, _, _, ?_, ⟨by have := HJ.out; omega⟩, HD7, HP6, HAT6, HB7⟩
              exact congrArg (Value.int .i64) (widx (by have := HLT.out; have := HL.out; omega))
      · have ckb : (o.f0 == 0) = false := beq_eq_false_iff_ne.mpr ck
        clear ck
        by_cases ck : o.f0 = 1
        · have ckc : (o.f0 == 1) = true := beq_iff_eq.mpr ck
          clear ck
          go_wp2_with fail
          refine (sync_walk base D gS cW A S W wr HD.out (fun p hp => HP.out.val p hp) HWn.out).mono ?_
          rintro x w6 ⟨rfl, hd6, ht6⟩
          have HD6 := Aside0.mk hd6
          have HB6 := Aside0.mk (ht6.bel HB.out HB.out.size HDD.out.2.1 HDD.out.2.2 (fun a ha => Nat.le_trans HDD.out.1 (HD.out.base.2.2.1 a ha)))
          clear hd6 ht6
          have HP6 := Aside0.mk HP.out.sync
          have HAT6 := Aside0.mk (show (applyW S W)[at_.toNat]? = some b ∧ ∀ p ∈ ([] : List (Int × List Int)), p.1 ≠ at_ from ⟨by rw [applyW_get at_ HV.out.1 W S b (fun p hp => ⟨(HP.out.val p hp).1, (HP.out.val p hp).2.1⟩) HAT.out.1, readW_ne at_ W b HAT.out.2], by simp⟩)
          go_wp2_with fail
          refine (read_yes base D gS _ _ _ _ at_ b w6 HD6.out (decide_eq_true HV.out.1) (decide_eq_true (by have := HP6.out.len; have := HV.out.2; omega)) HAT6.out.1 HBL.out (by have := HP6.out.few; have := HL.out; have := HLT.out; omega) (fun p hp => (HP6.out.val p hp).2.2)).mono ?_
          rintro x w7 ⟨v7, rfl, ho7, hb7⟩
          have HB7 := Aside0.mk (below_then HB6.out HB6.out.size hb7)
          have HD7 := Aside0.mk (HD6.out.below hb7)
          rw [readW_ne at_ _ _ HAT6.out.2] at ho7
          have hcvR := own_string (P := Try.prog) Try.underlying30 Try.underlying5 Try.underlying9 (Kd.own_of_R ho7)
          have hcvW := Kd.C_string (P := Try.prog) Try.underlying30 Try.underlying5 Try.underlying9 (c := c2) (Kd.C_below HR2.out HB7.out)
          clear ho7 hb7
          go_wp2_with fail
          go_roundg k1
          case measure => omega
          case rel =>
            refine ⟨j + 1, _, _, _, _, ?_, ⟨by have := HJ.out; omega⟩, HD7, HP6, HAT6, HB7⟩
            exact congrArg (Value.int .i64) (widx (by have := HLT.out; have := HL.out; omega))
        · have ckc : (o.f0 == 1) = false := beq_eq_false_iff_ne.mpr ck
          clear ck
          obtain ⟨mB, nB, hm1, hm2, hnB⟩ := bytes_few o.f5
          have HM1' := Aside0.mk hm1
          have HM2' := Aside0.mk hm2
          have HNB := Aside0.mk hnB
          clear hm1 hm2 hnB
          go_wp2_with fail
          go_still_tail 16, (by kernel_rfl)
          change wpList _ _ _ _ _ wr.drew
          go_wp2_with fail
          refine (crash_walk base D gS cW nB A AK cK S W o.f3 o.f4 o.f5 mB _ HDd.out (fun p hp => HP.out.val p hp) HWn.out (Kd.F_mono (Kd.F_below (Kd.C_F Kd.heap_bool HIK.out) HBd.out) (fun k hk => Nat.lt_of_lt_of_le hk HDD.out.1)) HM1'.out HM2'.out HNB.out).mono ?_
          rintro x w6 ⟨rfl, hd6, ht6⟩
          have HD6 := Aside0.mk hd6
          have HB6 := Aside0.mk (ht6.bel HBd.out HBd.out.size HDD.out.2.1 HDD.out.2.2 (fun a ha => Nat.le_trans HDD.out.1 (HDd.out.base.2.2.1 a ha)))
          clear hd6 ht6
          have HP6 := Aside0.mk (HP.out.crash o.f3 o.f4 HNB.out)
          have HAT6 := Aside0.mk (show (crashW o.f3 o.f4 nB S W W.length)[at_.toNat]? = some b ∧ ∀ p ∈ ([] : List (Int × List Int)), p.1 ≠ at_ from ⟨by rw [crashW_ne HV.out.1 (fun p hp => ⟨(HP.out.val p hp).1, HAT.out.2 p hp⟩)]; exact HAT.out.1, by simp⟩)
          go_wp2_with fail
          refine (read_yes base D gS _ _ _ _ at_ b w6 HD6.out (decide_eq_true HV.out.1) (decide_eq_true (by have := HP6.out.len; have := HV.out.2; omega)) HAT6.out.1 HBL.out (by have := HP6.out.few; have := HL.out; have := HLT.out; omega) (fun p hp => (HP6.out.val p hp).2.2)).mono ?_
          rintro x w7 ⟨v7, rfl, ho7, hb7⟩
          have HB7 := Aside0.mk (below_then HB6.out HB6.out.size hb7)
          have HD7 := Aside0.mk (HD6.out.below hb7)
          rw [readW_ne at_ _ _ HAT6.out.2] at ho7
          have hcvR := own_string (P := Try.prog) Try.underlying30 Try.underlying5 Try.underlying9 (Kd.own_of_R ho7)
          have hcvW := Kd.C_string (P := Try.prog) Try.underlying30 Try.underlying5 Try.underlying9 (c := c2) (Kd.C_below HR2.out HB7.out)
          clear ho7 hb7
          go_wp2_with fail
          go_roundg k1
          case measure => omega
          case rel =>
            refine ⟨j + 1, _, _, _, _, ?_, ⟨by have := HJ.out; omega⟩, HD7, HP6, HAT6, HB7⟩
            exact congrArg (Value.int .i64) (widx (by have := HLT.out; have := HL.out; omega))
    · obtain rfl : j = l.length := by have := HJ.out; omega
      have p1 : decide ((l.length : Int) < (l.length : Int)) = false := decide_eq_false (by omega)
      clear hlt
      go_wp2
      go_ret
      exact ⟨rfl, HB.out⟩
def colloquylaw19_DiskSynced.f (a0 a1 : Int) (l2 : List Int) (l3 : List S33) : Option Bool := some true
theorem colloquylaw19_DiskSynced.calls (a0 : Int) (a1 : Int) (A2 : Option Addr) (c2 : Nat) (l2 : List Int) (A3 : Option Addr) (c3 : Nat) (l3 : List S33) (r : Bool) (w : World) (hr2 : Kd.C (Kd.int .u8) w A2 l2.length l2) (hc2 : l2.length ≤ c2) (hr3 : Kd.C k33 w A3 l3.length l3) (hc3 : l3.length ≤ c3) (h : colloquylaw19_DiskSynced.f a0 a1 l2 l3 = some r) :
    Calls Try.prog 4 #[.int .i64 a0, .int .i64 a1, .slice A2 l2.length c2, .slice A3 l3.length c3] w fun e w' => e = .returned (.bool r) ∧ Below w.heap.size w w' := by
  obtain rfl := Option.some.inj h
  obtain ⟨b, hb, hh⟩ := few_total l3
  obtain ⟨m1, m, hm1, hm2, hm, hm0⟩ := mm a0
  cases b with
  | false => exact synced_other a0 a1 A2 c2 l2.length A3 c3 l3 w false hr3 hc3 hb (.inl rfl)
  | true =>
    by_cases c40 : (l2.length : Int) > 40
    · exact synced_other a0 a1 A2 c2 l2.length A3 c3 l3 w true hr3 hc3 hb (.inr ⟨rfl, decide_eq_true c40⟩)
    · by_cases c0 : 0 ≤ a1
      · by_cases c1 : a1 < (m : Int)
        · by_cases c16 : l2.length = 16
          · obtain ⟨y0, y1, y2, y3, y4, y5, y6, y7, y8, y9, y10, y11, y12, y13, y14, y15, hB⟩ := len16 c16
            rw [c16] at hr2 hc2 ⊢
            obtain ⟨ad2, eA2, _⟩ := hr2.2.2 (by decide)
            subst eA2
            exact synced_yes a0 a1 ad2 c2 l2 y0 y1 y2 y3 y4 y5 y6 y7 y8 y9 y10 y11 y12 y13 y14 y15 hB A3 c3 l3 w hr2 hc2 hr3 hc3 hb (hh rfl).1 m1 m hm1 hm2 hm c0 c1
          · exact synced_no a0 a1 A2 c2 l2.length A3 c3 l3 w hr3 hc3 hb (decide_eq_false c40) m1 m hm1 hm2 hm (.inr (.inr ⟨decide_eq_true c0, decide_eq_true c1, bne_iff_ne.mpr (by omega)⟩))
        · exact synced_no a0 a1 A2 c2 l2.length A3 c3 l3 w hr3 hc3 hb (decide_eq_false c40) m1 m hm1 hm2 hm (.inr (.inl ⟨decide_eq_true c0, decide_eq_false c1⟩))
      · exact synced_no a0 a1 A2 c2 l2.length A3 c3 l3 w hr3 hc3 hb (decide_eq_false c40) m1 m hm1 hm2 hm (.inl (decide_eq_false c0))
end Go.Proofs.Ytfmgealooebciaa.PAll
