/- WalCut over the log in memory. Printed by wip/tools/genwal.py. -/
import Derived.Test.YtoafbpbnlmcklaaMWalC
namespace Go.Proofs.Ytoafbpbnlmcklaa.PAll
open Go.RowKit Go.Proofs.YtoafbpbnlmcklaaW.PrintWords Go.Proofs.YtoafbpbnlmcklaaW.PrintLast Go.Proofs.YtoafbpbnlmcklaaW.PrintMore Go.Proofs.Ytoafbpbnlmcklaa.Pure
set_option linter.unusedVariables false
set_option linter.unusedSimpArgs false
theorem take_snoc {l : List (List Int)} {j : Nat} {b : List Int} (h : l[j]? = some b) : l.take j ++ [b] = l.take (j + 1) := by rw [List.take_add_one, h]; rfl
theorem rd_get {l : List (List Int)} {j : Nat} (h : j < l.length) : l[j]? = some (rd_L1 l (j : Int)) := by
  unfold rd_L1
  rw [Int.toNat_natCast, List.getD_eq_getElem?_getD, List.getElem?_eq_getElem h, Option.getD_some]
theorem fits_yes' {m u : Nat} {b : List Int} (h : appE m u b = 0) : fitsF m u b = true := by
  unfold appE at h
  split at h
  · split at h
    · exact fits_yes (by assumption) (by assumption)
    · cases h
  · cases h
theorem info28a : ∃ i, Try.prog.info? 28 = some i ∧ i.size = 1 := ⟨(Try.prog.info? 28).get (by kernel_rfl), by kernel_rfl, by kernel_rfl⟩
set_option maxHeartbeats 8000000 in
set_option maxRecDepth 100000 in
theorem WalCut_out1 (n : Int) (A0 : Option Addr) (c0 : Nat) (l : List (List Int)) (at_ : Int) (w : World) (hr0 : Kd.C (Kd.slice 5 (Kd.int .u8)) w A0 l.length l) (hn : 100 < n) : Calls Try.prog 3 #[.int .i64 n, .slice A0 l.length c0, .int .i64 at_] w fun x w' => x = .returned (.bool true) ∧ Below w.heap.size w w' := by
  have g1 : decide (n > (100 : Int)) = true := decide_eq_true (by omega)
  clear hn

  have HR0 := Aside0.mk hr0
  clear hr0
  go_enter Try.func3, Try.ntmps3
  go_wp2_with fail
  refine (awake_walk w).mono ?_
  rintro x w1 ⟨rfl, hb1⟩
  have HB1 := Aside0.mk hb1
  clear hb1
  go_wp2_with fail
  refine (new_tot n w1).mono ?_
  rintro x w2 ⟨D, gS, rfl, hd2, hb2⟩
  have HD2 := Aside0.mk (hd2.lower HB1.out.size)
  have HB2 := Aside0.mk (below_then HB1.out HB1.out.size hb2)
  clear hd2 hb2 HB1
  go_wp2
  go_ret
  exact ⟨rfl, HB2.out⟩
set_option maxHeartbeats 8000000 in
set_option maxRecDepth 100000 in
theorem WalCut_out2 (n : Int) (A0 : Option Addr) (c0 : Nat) (l : List (List Int)) (at_ : Int) (w : World) (hr0 : Kd.C (Kd.slice 5 (Kd.int .u8)) w A0 l.length l) (hn : n ≤ 100) (hl : 20 < l.length) : Calls Try.prog 3 #[.int .i64 n, .slice A0 l.length c0, .int .i64 at_] w fun x w' => x = .returned (.bool true) ∧ Below w.heap.size w w' := by
  have g1 : decide (n > (100 : Int)) = false := decide_eq_false (by omega)
  have g2 : decide ((l.length : Int) > 20) = true := decide_eq_true (by omega)
  clear hn hl

  have HR0 := Aside0.mk hr0
  clear hr0
  go_enter Try.func3, Try.ntmps3
  go_wp2_with fail
  refine (awake_walk w).mono ?_
  rintro x w1 ⟨rfl, hb1⟩
  have HB1 := Aside0.mk hb1
  clear hb1
  go_wp2_with fail
  refine (new_tot n w1).mono ?_
  rintro x w2 ⟨D, gS, rfl, hd2, hb2⟩
  have HD2 := Aside0.mk (hd2.lower HB1.out.size)
  have HB2 := Aside0.mk (below_then HB1.out HB1.out.size hb2)
  clear hd2 hb2 HB1
  go_wp2
  go_ret
  exact ⟨rfl, HB2.out⟩
set_option maxHeartbeats 8000000 in
set_option maxRecDepth 100000 in
theorem WalCut_out3 (n : Int) (A0 : Option Addr) (c0 : Nat) (l : List (List Int)) (at_ : Int) (w : World) (hr0 : Kd.C (Kd.slice 5 (Kd.int .u8)) w A0 l.length l) (hn : n ≤ 100) (hl : l.length ≤ 20) (ha : at_ < 0) : Calls Try.prog 3 #[.int .i64 n, .slice A0 l.length c0, .int .i64 at_] w fun x w' => x = .returned (.bool true) ∧ Below w.heap.size w w' := by
  have g1 : decide (n > (100 : Int)) = false := decide_eq_false (by omega)
  have g2 : decide ((l.length : Int) > 20) = false := decide_eq_false (by omega)
  have g3 : decide (at_ < 0) = true := decide_eq_true (by omega)
  clear hn hl ha

  have HR0 := Aside0.mk hr0
  clear hr0
  go_enter Try.func3, Try.ntmps3
  go_wp2_with fail
  refine (awake_walk w).mono ?_
  rintro x w1 ⟨rfl, hb1⟩
  have HB1 := Aside0.mk hb1
  clear hb1
  go_wp2_with fail
  refine (new_tot n w1).mono ?_
  rintro x w2 ⟨D, gS, rfl, hd2, hb2⟩
  have HD2 := Aside0.mk (hd2.lower HB1.out.size)
  have HB2 := Aside0.mk (below_then HB1.out HB1.out.size hb2)
  clear hd2 hb2 HB1
  go_wp2
  go_ret
  exact ⟨rfl, HB2.out⟩
set_option maxHeartbeats 8000000 in
set_option maxRecDepth 100000 in
theorem WalCut_in (n : Int) (A0 : Option Addr) (c0 : Nat) (l : List (List Int)) (at_ : Int) (w : World) (hr0 : Kd.C (Kd.slice 5 (Kd.int .u8)) w A0 l.length l) (hc0 : l.length ≤ c0) (hn : n ≤ 100) (hl : l.length ≤ 20) (ha : 0 ≤ at_) (hbs : ∀ b ∈ l, Bs b) : Calls Try.prog 3 #[.int .i64 n, .slice A0 l.length c0, .int .i64 at_] w fun x w' => x = .returned (.bool true) ∧ Below w.heap.size w w' := by
  have HBS := Aside0.mk hbs
  clear hbs
  have g1 : decide (n > (100 : Int)) = false := decide_eq_false (by omega)
  have g2 : decide ((l.length : Int) > 20) = false := decide_eq_false (by omega)
  have g3 : decide (at_ < 0) = false := decide_eq_false (by omega)
  have HM := Aside0.mk (clampN_100 hn)
  have HL := Aside0.mk hl
  obtain ⟨p, hp⟩ : ∃ p : Nat, at_ = (p : Int) := ⟨at_.toNat, by omega⟩
  subst hp
  have HC0 := Aside0.mk hc0
  clear hn hl ha hc0

  have HR0 := Aside0.mk hr0
  clear hr0
  go_enter Try.func3, Try.ntmps3
  go_wp2_with fail
  refine (awake_walk w).mono ?_
  rintro x w1 ⟨rfl, hb1⟩
  have HB1 := Aside0.mk hb1
  clear hb1
  go_wp2_with fail
  refine (new_tot n w1).mono ?_
  rintro x w2 ⟨D, gS, rfl, hd2, hb2⟩
  have HD2 := Aside0.mk (hd2.lower HB1.out.size)
  have HB2 := Aside0.mk (below_then HB1.out HB1.out.size hb2)
  clear hd2 hb2 HB1
  obtain ⟨m, hm⟩ : ∃ m, m = clampN n := ⟨_, rfl⟩
  rw [← hm] at HD2 HM
  clear hm
  go_wp2_with fail
  refine (real_open w.heap.size D gS m 0 w2 HD2.out (by have := HM.out; omega)).mono ?_
  rintro x w3 ⟨Wb, vL0, A3, cW3, rfl, hr3, hb3⟩
  have HR3 := Aside0.mk hr3
  have HB3 := Aside0.mk (HB2.out.trans hb3)
  clear hr3 hb3 HB2 HD2
  obtain ⟨S, hS⟩ : ∃ S, S = List.replicate m zeroS := ⟨_, rfl⟩
  rw [← hS] at HR3
  have HSl := Aside0.mk (show S.length = m by rw [hS, List.length_replicate])
  clear hS
  go_wp2
  go_loopg [10, 11] l.length (fun kq v10 v11 w' => ∃ (j q u k : Nat) (W : List (Int × List Int)) (L : List (List Int)) (A : Option Addr) (cW : Nat) (vL : Value), v10 = .int .i64 (k : Int) ∧ v11 = .int .i64 (j : Int) ∧ Aside0 (j + kq = l.length) ∧ Aside0 (q = 2000 * j) ∧ Aside0 (L = l.take j) ∧ Aside0 (k ≤ j ∧ (secsF (l.take k)).length ≤ p ∧ (k < j → p < (secsF (l.take (k + 1))).length)) ∧ Aside0 (Real w.heap.size D gS m q Wb u A cW vL S W L w') ∧ Aside0 (Below w.heap.size w w'))
  case atStart => exact ⟨0, 0, 0, 0, [], [], A3, cW3, vL0, rfl, rfl, ⟨by omega⟩, ⟨rfl⟩, ⟨rfl⟩, ⟨Nat.le_refl _, Nat.zero_le _, by omega⟩, HR3, HB3⟩
  case round =>
    obtain ⟨j, q, u, k, W, L, A, cW, vL, rfl, rfl, HJ, HQ, HLL, HK, HR, HB⟩ := hrel
    by_cases hlt : j < l.length
    · obtain ⟨ad, Ab, cb, e, hx0, hcb, hCb⟩ := at_L1 HR0.out (j : Int) (by omega) (by omega)
      subst e
      obtain ⟨b, hb⟩ : ∃ b, b = rd_L1 l (j : Int) := ⟨_, rfl⟩
      rw [← hb] at hx0 hcb hCb
      rw [Int.toNat_natCast] at hx0
      have HBb := Aside0.mk (show Bs b by rw [hb]; exact HBS.out _ (rd_mem hlt))
      have HCb := Aside0.mk hCb
      have HX0 := Aside0.mk hx0
      have HBe := Aside0.mk (show l[j]? = some b by rw [hb]; exact rd_get hlt)
      have y0 := kfact hx0 HB.out
      have HLT := Aside0.mk hlt
      have HCB := Aside0.mk hcb
      clear hb hCb hx0 hcb
      have p1 : decide ((j : Int) < (l.length : Int)) = true := decide_eq_true (by omega)
      have p2 := eq_true (show 0 ≤ (j : Int) by omega)
      have p3 := eq_true (show (j : Int) < (l.length : Int) by omega)
      obtain ⟨k1, rfl⟩ : ∃ k1, gk = k1 + 1 := ⟨gk - 1, by have := HJ.out; omega⟩
      clear hlt
      by_cases cl : b.length > 1100
      · have p4 : decide ((b.length : Int) > 1100) = true := decide_eq_true (by omega)
        clear cl
        go_wp2
        go_ret
        exact ⟨rfl, HB.out⟩
      have p4 : decide ((b.length : Int) > 1100) = false := decide_eq_false (by omega)
      clear cl
      go_wp2_with fail
      refine (real_append w.heap.size D gS m q Wb u cW A vL S W L b Ab b.length cb wr (fun k => k < w.heap.size) HR.out (by have := HM.out; omega) (by have := HQ.out; have := HLT.out; have := HL.out; omega) (argF HCb.out HB.out) (fun k hk => HR.out.okB k hk) HCB.out HBb.out).mono ?_
      rintro x w5 ⟨rfl, A5, cW5, vL5, hr5, ht5, _⟩
      have HR5 := Aside0.mk hr5
      have HB5 := Aside0.mk (HR.out.bel ht5 HB.out (Nat.le_refl _))
      clear hr5 ht5

      have HFR := Aside0.mk (show appE m u b = 0 → fitsF m u b = true from fun h => fits_yes' h)
      by_cases ce : appE m u b = 0
      · rw [ce]
        have HF := Aside0.mk (HFR.out ce)
        clear ce
        have HU5 := Aside0.mk (show appU m u b = (secsF (l.take (j + 1))).length by have := HR5.out.log.used; rw [this, appL, if_pos HF.out, HLL.out]; exact congrArg (fun x => (secsF x).length) (take_snoc (HBe.out)))
        have HL5 := Aside0.mk (show appL m u L b = l.take (j + 1) by rw [appL, if_pos HF.out, HLL.out]; exact take_snoc HBe.out)
        go_wp2_with fail
        refine (used_walk 66 w.heap.size Wb D _ vL5 _ w5 HR5.out.l).mono ?_
        rintro x w6 ⟨rfl, rfl⟩
        obtain ⟨uI, huI⟩ : ∃ x : Int, x = ((appU m u b : Nat) : Int) := ⟨_, rfl⟩
        rw [← huI]
        by_cases cu : appU m u b ≤ p
        · have q4 : decide (uI ≤ (p : Int)) = true := decide_eq_true (by omega)
          clear huI
          have HK5 := Aside0.mk (show j + 1 ≤ j + 1 ∧ (secsF (l.take (j + 1))).length ≤ p ∧ (j + 1 < j + 1 → p < (secsF (l.take (j + 1 + 1))).length) from ⟨Nat.le_refl _, by rw [← HU5.out]; exact cu, by omega⟩)
          clear cu
          go_wp2_with fail
          go_roundg k1
          case measure => omega
          case rel =>
            refine ⟨j + 1, q + 2000, _, j + 1, _, _, _, _, _, congrArg (Value.int .i64) (widx (by have := HLT.out; have := HL.out; omega)), ?_, ⟨by have := HJ.out; omega⟩, ⟨by have := HQ.out; omega⟩, HL5, HK5, HR5, HB5⟩
            exact congrArg (Value.int .i64) (widx (by have := HLT.out; have := HL.out; omega))
        have q4 : decide (uI ≤ (p : Int)) = false := decide_eq_false (by omega)
        clear huI
        have HK5 := Aside0.mk (show k ≤ j + 1 ∧ (secsF (l.take k)).length ≤ p ∧ (k < j + 1 → p < (secsF (l.take (k + 1))).length) from ⟨by have := HK.out.1; omega, HK.out.2.1, fun h => by
          by_cases e : k < j
          · exact HK.out.2.2 e
          · have e2 : k = j := by omega
            rw [e2, ← HU5.out]; omega⟩)
        clear cu
        go_wp2_with fail
        go_roundg k1
        case measure => omega
        case rel =>
          refine ⟨j + 1, q + 2000, _, k, _, _, _, _, _, rfl, ?_, ⟨by have := HJ.out; omega⟩, ⟨by have := HQ.out; omega⟩, HL5, HK5, HR5, HB5⟩
          exact congrArg (Value.int .i64) (widx (by have := HLT.out; have := HL.out; omega))
      have q4 : (appE m u b != 0) = true := bne_iff_ne.mpr ce
      clear ce
      go_wp2
      go_ret
      exact ⟨rfl, HB5.out⟩
    · obtain rfl : l.length = j := by have := HJ.out; omega
      have p1 : decide ((l.length : Int) < (l.length : Int)) = false := decide_eq_false (by omega)
      have HM5 := Aside0.mk (show m ≤ 512 by have := HM.out; omega)
      have HQ5 := Aside0.mk (show q ≤ 900000 by have := HQ.out; have := HL.out; omega)
      have HL5 := Aside0.mk (show L = l by rw [HLL.out, List.take_of_length_le (Nat.le_refl _)])
      clear hlt
      go_wp2_with fail
      refine (used_walk 66 w.heap.size Wb D u vL L wr HR.out.l).mono ?_
      rintro x w4 ⟨rfl, rfl⟩
      obtain ⟨uI, huI⟩ : ∃ x : Int, x = (u : Int) := ⟨_, rfl⟩
      rw [← huI]
      by_cases cu : u ≤ p
      · have q4 : decide ((p : Int) ≥ uI) = true := decide_eq_true (by omega)
        clear huI
        clear cu
        go_wp2
        go_ret
        exact ⟨rfl, HB.out⟩
      have q4 : decide ((p : Int) ≥ uI) = false := decide_eq_false (by omega)
      clear huI
      have HPU := Aside0.mk (show p < u by omega)
      clear cu
      go_wp2_with fail
      refine (read_walk w.heap.size D gS cW m q A S W (p : Int) w4 HR.out.d HR.out.p (by have := HQ5.out; omega)).mono ?_
      rintro x w5 ⟨v5, rfl, ho5, hb5⟩
      have HPm := Aside0.mk (show p < m by have := HR.out.log.le; have := HPU.out; omega)
      obtain ⟨re5, rg5, rl5⟩ := readL_get HR.out.p HPm.out
      rw [re5]
      obtain ⟨s, hs⟩ : ∃ s, s = readL S W (p : Int) := ⟨_, rfl⟩
      rw [← hs] at ho5
      have HS5 := Aside0.mk (show (applyW S W)[p]? = some s by rw [hs]; exact rg5)
      have HS16 := Aside0.mk (show s.length = 16 by rw [hs]; exact rl5)
      obtain ⟨g5, c5, cur5, e5, hg5, hbk5, hls5⟩ := own5 ho5 (by rw [HS16.out]; decide)
      rw [HS16.out] at e5
      subst e5
      have HG5 := Aside0.mk hg5
      have HY5 := Aside0.mk ho5
      have HBK := Aside0.mk hbk5
      have HZ5 := Aside0.mk (hb5.setCell (p := ⟨g5, 15, none⟩) hg5 (.int .u8 0))
      have q5 : w5.cell? ⟨g5, 15, none⟩ = some (.int .u8 (markF s)) := by
        obtain ⟨ad, ea, hc⟩ := Kd.at_int (Kd.R_reads' ho5).2.2 15 (by decide) (by rw [HS16.out]; decide)
        cases ea
        rw [add_plain] at hc
        exact hc
      have q6 := blk_frozen hbk5 15
      clear hg5 hbk5 hls5
      clear ho5 hb5 hs re5 rg5 rl5
      go_wp2_with fail
      have HP5 := Aside0.mk (Kd.R_putn HY5.out 15 0)
      obtain ⟨w6, hw6⟩ : ∃ w6, w6 = w5.setCell ⟨g5, 15, none⟩ (.int .u8 0) := ⟨_, rfl⟩
      have HZ6 := Aside0.mk (show Below w4.heap.size w4 w6 by rw [hw6]; exact HZ5.out)
      have HC6 := Aside0.mk (show Kd.C (Kd.int .u8) w6 (some ⟨g5, 0, none⟩) 16 (s.set 15 0) by
        have h := (Kd.R_reads' HP5.out).2.2
        rw [List.length_set, HS16.out] at h
        rw [hw6]
        exact h)
      have HD6 := Aside0.mk (HR.out.d.below HZ6.out)
      have HB6 := Aside0.mk (below_then HB.out HB.out.size HZ6.out)
      have HCC := Aside0.mk (Kd.R_reads' HY5.out).2.1
      rw [← hw6]
      clear hw6 q5 q6
      refine (write_walk w.heap.size D gS cW A (some ⟨g5, 0, none⟩) S W (p : Int) (s.set 15 0) 16 c5 w6 HD6.out (by have := HR.out.p.few; have := HQ5.out; omega) HC6.out HCC.out).mono ?_
      rintro x w7 ⟨rfl, A7, cW7, hd7, ht7, _⟩
      have HWW := Aside0.mk (show writeW S W (p : Int) (s.set 15 0) = W ++ [((p : Int), s.set 15 0)] by rw [writeW, if_pos ⟨by omega, by rw [HSl.out]; have := HPm.out; omega, by rw [List.length_set]; exact HS16.out⟩])
      have HE7 := Aside0.mk (show applyW S (writeW S W (p : Int) (s.set 15 0)) = (applyW S W).set p (s.set 15 0) by rw [HWW.out, applyW_append]; rfl)
      have HPP := Aside0.mk (HR.out.p.writeW (p : Int) (s.set 15 0))
      have HBT := Aside0.mk (show ∀ x ∈ applyW S (writeW S W (p : Int) (s.set 15 0)), Bs x by
        rw [HE7.out]
        have hb := HR.out.log.bs HR.out.bs
        intro x hx
        rcases List.mem_or_eq_of_mem_set hx with h | h
        · exact hb x h
        · rw [h]
          have hsb := hb s (List.mem_of_getElem? HS5.out)
          intro c hc
          rcases List.mem_or_eq_of_mem_set hc with h2 | h2
          · exact hsb c h2
          · rw [h2]; exact ⟨by decide, by decide⟩)
      have HMk := Aside0.mk (show markF (s.set 15 0) = 0 by unfold markF; rw [List.getD_eq_getElem?_getD, List.getElem?_set_self (by rw [HS16.out]; decide)]; rfl)
      have HOP := Aside0.mk (show openF (applyW S (writeW S W (p : Int) (s.set 15 0))) = (l.take k, (secsF (l.take k)).length) by
        rw [HE7.out]
        have hlog := HR.out.log
        rw [HL5.out] at hlog
        exact cut_sect hlog HPU.out (by rw [HMk.out]; decide) (by rw [HMk.out]; decide) HK.out.1 HK.out.2.1 HK.out.2.2)
      have HD7 := Aside0.mk hd7
      have HB7 := Aside0.mk (ht7.bel HB6.out HD6.out.base.2.2.2 HD6.out.base.1 HD6.out.base.2.1 HD6.out.base.2.2.1)
      clear hd7 ht7
      go_wp2_with fail
      refine (open_walk w.heap.size D gS cW7 m (q + 1) A7 S _ w7 HD7.out HPP.out HM5.out (by have := HQ5.out; omega) HBT.out).mono ?_
      rintro x w9 ⟨Wb9, vL9, A9, cW9, rfl, hd9, hl9, ht9, _⟩
      rw [HOP.out] at hl9
      have HW9 := Aside0.mk (hl9.lower HD7.out.base.2.2.2)
      have HB9 := Aside0.mk (ht9.bel HB7.out HD7.out.base.2.2.2 (fun k hk => (HD7.out.inD hk).1))
      have HLn := Aside0.mk (show (l.take k).length ≤ 1000000 by rw [List.length_take]; have := HL.out; omega)
      have HLk := Aside0.mk (show ∀ b ∈ l.take k, b.length ≤ 1024 from fun b hb => HR.out.log.few b (by rw [HL5.out]; exact List.mem_of_mem_take hb))
      clear hd9 hl9 ht9
      obtain ⟨i28, hi28, _⟩ := info28a
      have hcut := cut_to (P := Try.prog) 22 28 .i64 Try.underlying22 hi28 A0 l.length c0 (k : Int) (by omega) (by have := HK.out.1; omega) HC0.out
      rw [Int.toNat_natCast] at hcut
      go_wp2_with fail
      refine wp_region_held (S := fun _ => True) none [1, 5, 6] [0, 2, 3, 4, 1, 5, 6] (by kernel_rfl) rfl (by kernel_rfl) (by kernel_rfl) trivial (fun hHeld => ?_)
      refine held_read (i := 0) (N := (some 95)) (v := ?_) (a' := ?_) rfl rfl rfl (fun _ _ _ h => h) (Or.inl ⟨by rfl, ?_⟩) ?_ ?_
      rotate_left
      · intro w' _
        go_simp
        with_reducible rfl
      rotate_left
      · simp only [Act.put, List.setIfInBounds_toArray, List.set_cons_zero, List.set_cons_succ, Go.Proofs.YtoafbpbnlmcklaaW.PrintLast.i64_w, Go.Proofs.YtoafbpbnlmcklaaW.PrintLast.i32_w]
        rfl
      refine held_read (i := 2) (N := (some 97)) (v := ?_) (a' := ?_) rfl rfl rfl (fun _ _ _ h => h) (Or.inl ⟨by rfl, ?_⟩) ?_ ?_
      rotate_left
      · intro w' _
        go_simp
        with_reducible rfl
      rotate_left
      · simp only [Act.put, List.setIfInBounds_toArray, List.set_cons_zero, List.set_cons_succ, Go.Proofs.YtoafbpbnlmcklaaW.PrintLast.i64_w, Go.Proofs.YtoafbpbnlmcklaaW.PrintLast.i32_w]
        rfl
      refine held_read (i := 3) (N := (some 98)) (v := ?_) (a' := ?_) rfl rfl rfl (fun _ _ _ h => h) (Or.inl ⟨by rfl, ?_⟩) ?_ ?_
      rotate_left
      · intro w' _
        go_simp
        with_reducible rfl
      rotate_left
      · simp only [Act.put, List.setIfInBounds_toArray, List.set_cons_zero, List.set_cons_succ, Go.Proofs.YtoafbpbnlmcklaaW.PrintLast.i64_w, Go.Proofs.YtoafbpbnlmcklaaW.PrintLast.i32_w]
        rfl
      refine held_read (i := 4) (N := (some 99)) (v := ?_) (a' := ?_) rfl rfl rfl (fun _ _ _ h => h) (Or.inl ⟨by rfl, ?_⟩) ?_ ?_
      rotate_left
      · intro w' _
        have z := hcut w'
        go_simp
        with_reducible rfl
      rotate_left
      · simp only [Act.put, List.setIfInBounds_toArray, List.set_cons_zero, List.set_cons_succ, Go.Proofs.YtoafbpbnlmcklaaW.PrintLast.i64_w, Go.Proofs.YtoafbpbnlmcklaaW.PrintLast.i32_w]
        rfl
      refine held_run (i := 1) (N := (some 96)) rfl rfl rfl (fun K hK => ?_)
      refine Go.Proofs.YtoafbpbnlmcklaaW.PrintLast.goes_ Try.func17 (by kernel_rfl) rfl #[.pointer (some ⟨Wb9, 0, none⟩)] (by rfl) rfl rfl (by first | done | rfl | (simp only [List.map_toArray, List.map_cons, List.map_nil]; first | done | rfl)) ?_
      refine (records_walk 66 w.heap.size Wb9 D _ vL9 _ w9.drew (HW9.out.below (below_drew (Below.refl _ _))) HLn.out HLk.out).mono ?_
      rintro x w10 ⟨v10, rfl, ho10, hb10⟩
      refine ⟨_, rfl, ?_⟩
      refine hK.out _ _ trivial ?_
      clear hK K
      refine held_norm (a' := ?_) ?_ ?_
      rotate_left
      · simp only [Act.put, List.setIfInBounds_toArray, List.set_cons_zero, List.set_cons_succ, Go.Proofs.YtoafbpbnlmcklaaW.PrintLast.i64_w, Go.Proofs.YtoafbpbnlmcklaaW.PrintLast.i32_w]
        rfl
      have HB10 := Aside0.mk (below_then (below_drew HB9.out) HB9.out.size hb10)
      obtain ⟨A10, c10, e10⟩ := Kd.R_slice ho10
      subst e10
      have HX10 := Aside0.mk (Kd.R_reads' ho10)
      have HT10 := Aside0.mk (Kd.C_take (Kd.C_below HR0.out HB10.out) HK.out.1)
      clear ho10 hb10
      obtain ⟨ks, hks⟩ := same_k (l.take k) (by have := HLn.out; omega)
      refine held_run (i := 5) (N := (some 100)) rfl rfl rfl (fun K hK => ?_)
      refine Go.Proofs.YtoafbpbnlmcklaaW.PrintLast.goes_ Try.func16 (by kernel_rfl) rfl #[.slice A10 (l.take k).length c10, .slice A0 k c0] (by rfl) rfl rfl (by first | done | rfl | (simp only [List.map_toArray, List.map_cons, List.map_nil]; first | done | rfl)) ?_
      refine (calls_of_args (by rw [List.length_take, Nat.min_eq_left HK.out.1]) (colloquyref20_Same.calls ks A10 c10 (l.take k) A0 c0 (l.take k) true w10 HX10.out.2.2 HX10.out.2.1 HT10.out (by rw [List.length_take]; have := HC0.out; omega) hks)).mono ?_
      rintro x w11 ⟨rfl, ⟨q11, hw11⟩⟩
      refine ⟨_, rfl, ?_⟩
      refine hK.out _ _ trivial ?_
      clear hK K
      refine held_norm (a' := ?_) ?_ ?_
      rotate_left
      · simp only [Act.put, List.setIfInBounds_toArray, List.set_cons_zero, List.set_cons_succ, Go.Proofs.YtoafbpbnlmcklaaW.PrintLast.i64_w, Go.Proofs.YtoafbpbnlmcklaaW.PrintLast.i32_w]
        rfl
      have HB11 := Aside0.mk (show Below w.heap.size w w11 by rw [hw11]; exact pw_below_drewN HB10.out _)
      clear hw11 hks
      refine held_run (i := 6) (N := (some 15)) rfl rfl rfl (fun K hK => ?_)
      go_simp
      refine hK.out _ _ trivial ?_
      clear hK K
      refine held_done ?_
      go_wp2
      go_ret
      exact ⟨rfl, HB11.out⟩
def colloquylaw20_WalCut.f (a0 : Int) (l1 : List (List Int)) (a2 : Int) : Option Bool := if okBs l1 = true then some true else none
theorem colloquylaw20_WalCut.calls (a0 : Int) (A1 : Option Addr) (c1 : Nat) (l1 : List (List Int)) (a2 : Int) (r : Bool) (w : World) (hr1 : Kd.C (Kd.slice 5 (Kd.int .u8)) w A1 l1.length l1) (hc1 : l1.length ≤ c1) (h : colloquylaw20_WalCut.f a0 l1 a2 = some r) :
    Calls Try.prog 3 #[.int .i64 a0, .slice A1 l1.length c1, .int .i64 a2] w fun e w' => e = .returned (.bool r) ∧ Below w.heap.size w w' := by
  unfold colloquylaw20_WalCut.f at h
  by_cases c : okBs l1 = true
  · rw [if_pos c] at h
    obtain rfl := Option.some.inj h
    by_cases hn : a0 ≤ 100
    · by_cases hl : l1.length ≤ 20
      · by_cases ha : 0 ≤ a2
        · exact WalCut_in a0 A1 c1 l1 a2 w hr1 hc1 hn hl ha (okBs_iff.1 c)
        · exact WalCut_out3 a0 A1 c1 l1 a2 w hr1 hn hl (by omega)
      · exact WalCut_out2 a0 A1 c1 l1 a2 w hr1 hn (by omega)
    · exact WalCut_out1 a0 A1 c1 l1 a2 w hr1 (by omega)
  · rw [if_neg c] at h; cases h
end Go.Proofs.Ytoafbpbnlmcklaa.PAll
