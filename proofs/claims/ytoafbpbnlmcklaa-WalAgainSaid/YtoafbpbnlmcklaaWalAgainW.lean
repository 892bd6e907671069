/- WalAgain over the log in memory. Printed by wip/tools/genwal.py. -/
import Derived.Test.YtoafbpbnlmcklaaMWalC
namespace Go.Proofs.Ytoafbpbnlmcklaa.PAll
open Go.RowKit Go.Proofs.YtoafbpbnlmcklaaW.PrintWords Go.Proofs.YtoafbpbnlmcklaaW.PrintLast Go.Proofs.YtoafbpbnlmcklaaW.PrintMore Go.Proofs.Ytoafbpbnlmcklaa.Pure
set_option linter.unusedVariables false
set_option linter.unusedSimpArgs false
set_option maxHeartbeats 2000000 in
set_option maxRecDepth 100000 in
theorem WalAgain_out1 (n : Int) (A0 : Option Addr) (c0 : Nat) (l : List (List Int)) (w : World) (hr0 : Kd.C (Kd.slice 5 (Kd.int .u8)) w A0 l.length l) (hn : 100 < n) : Calls Try.prog 6 #[.int .i64 n, .slice A0 l.length c0] w fun x w' => x = .returned (.bool true) ∧ Below w.heap.size w w' := by
  have g1 : decide (n > (100 : Int)) = true := decide_eq_true (by omega)
  clear hn

  have HR0 := Aside0.mk hr0
  clear hr0
  go_enter Try.func6, Try.ntmps6
  go_wp2_with fail
  refine (awake_walk w).mono ?_
  rintro x w1 ⟨rfl, hb1⟩
  have HB1 := Aside0.mk hb1
  clear hb1
  go_wp2_with fail
  refine (new_tot n w1).mono ?_
  rintro x w2 ⟨D, gS, rfl, hd2, hb2⟩
  have HD2 := Aside0.mk (hd2.lower HB1.out.size)
  have HB2 := Aside0.mk (below_then HB1.out HB1.out.size hb2)
  clear hd2 hb2 HB1
  go_wp2
  go_ret
  exact ⟨rfl, HB2.out⟩
set_option maxHeartbeats 2000000 in
set_option maxRecDepth 100000 in
theorem WalAgain_out2 (n : Int) (A0 : Option Addr) (c0 : Nat) (l : List (List Int)) (w : World) (hr0 : Kd.C (Kd.slice 5 (Kd.int .u8)) w A0 l.length l) (hn : n ≤ 100) (hl : 20 < l.length) : Calls Try.prog 6 #[.int .i64 n, .slice A0 l.length c0] w fun x w' => x = .returned (.bool true) ∧ Below w.heap.size w w' := by
  have g1 : decide (n > (100 : Int)) = false := decide_eq_false (by omega)
  have g2 : decide ((l.length : Int) > 20) = true := decide_eq_true (by omega)
  clear hn hl

  have HR0 := Aside0.mk hr0
  clear hr0
  go_enter Try.func6, Try.ntmps6
  go_wp2_with fail
  refine (awake_walk w).mono ?_
  rintro x w1 ⟨rfl, hb1⟩
  have HB1 := Aside0.mk hb1
  clear hb1
  go_wp2_with fail
  refine (new_tot n w1).mono ?_
  rintro x w2 ⟨D, gS, rfl, hd2, hb2⟩
  have HD2 := Aside0.mk (hd2.lower HB1.out.size)
  have HB2 := Aside0.mk (below_then HB1.out HB1.out.size hb2)
  clear hd2 hb2 HB1
  go_wp2
  go_ret
  exact ⟨rfl, HB2.out⟩
set_option maxHeartbeats 8000000 in
set_option maxRecDepth 100000 in
theorem WalAgain_in (n : Int) (A0 : Option Addr) (c0 : Nat) (l : List (List Int)) (w : World) (hr0 : Kd.C (Kd.slice 5 (Kd.int .u8)) w A0 l.length l) (hn : n ≤ 100) (hl : l.length ≤ 20) (hbs : ∀ b ∈ l, Bs b) : Calls Try.prog 6 #[.int .i64 n, .slice A0 l.length c0] w fun x w' => x = .returned (.bool true) ∧ Below w.heap.size w w' := by
  have HBS := Aside0.mk hbs
  clear hbs
  have g1 : decide (n > (100 : Int)) = false := decide_eq_false (by omega)
  have g2 : decide ((l.length : Int) > 20) = false := decide_eq_false (by omega)
  have HM := Aside0.mk (clampN_100 hn)
  have HL := Aside0.mk hl
  clear hn hl

  have HR0 := Aside0.mk hr0
  clear hr0
  go_enter Try.func6, Try.ntmps6
  go_wp2_with fail
  refine (awake_walk w).mono ?_
  rintro x w1 ⟨rfl, hb1⟩
  have HB1 := Aside0.mk hb1
  clear hb1
  go_wp2_with fail
  refine (new_tot n w1).mono ?_
  rintro x w2 ⟨D, gS, rfl, hd2, hb2⟩
  have HD2 := Aside0.mk (hd2.lower HB1.out.size)
  have HB2 := Aside0.mk (below_then HB1.out HB1.out.size hb2)
  clear hd2 hb2 HB1
  obtain ⟨m, hm⟩ : ∃ m, m = clampN n := ⟨_, rfl⟩
  rw [← hm] at HD2 HM
  clear hm
  go_wp2_with fail
  refine (real_open w.heap.size D gS m 0 w2 HD2.out (by have := HM.out; omega)).mono ?_
  rintro x w3 ⟨Wb, vL0, A3, cW3, rfl, hr3, hb3⟩
  have HR3 := Aside0.mk hr3
  have HB3 := Aside0.mk (HB2.out.trans hb3)
  clear hr3 hb3 HB2 HD2
  obtain ⟨S, hS⟩ : ∃ S, S = List.replicate m zeroS := ⟨_, rfl⟩
  rw [← hS] at HR3
  clear hS
  go_wp2
  go_loopg [8] l.length (fun kq v8 w' => ∃ (j q u : Nat) (W : List (Int × List Int)) (L : List (List Int)) (A : Option Addr) (cW : Nat) (vL : Value), v8 = .int .i64 (j : Int) ∧ Aside0 (j + kq = l.length) ∧ Aside0 (q = 2000 * j) ∧ Aside0 (Real w.heap.size D gS m q Wb u A cW vL S W L w') ∧ Aside0 (Below w.heap.size w w'))
  case atStart => exact ⟨0, 0, 0, [], [], A3, cW3, vL0, rfl, ⟨by omega⟩, ⟨rfl⟩, HR3, HB3⟩
  case round =>
    obtain ⟨j, q, u, W, L, A, cW, vL, rfl, HJ, HQ, HR, HB⟩ := hrel
    by_cases hlt : j < l.length
    · obtain ⟨ad, Ab, cb, e, hx0, hcb, hCb⟩ := at_L1 HR0.out (j : Int) (by omega) (by omega)
      subst e
      obtain ⟨b, hb⟩ : ∃ b, b = rd_L1 l (j : Int) := ⟨_, rfl⟩
      rw [← hb] at hx0 hcb hCb
      rw [Int.toNat_natCast] at hx0
      have HBb := Aside0.mk (show Bs b by rw [hb]; exact HBS.out _ (rd_mem hlt))
      have HCb := Aside0.mk hCb
      have HX0 := Aside0.mk hx0
      have y0 := kfact hx0 HB.out
      have HLT := Aside0.mk hlt
      have HCB := Aside0.mk hcb
      clear hb hCb hx0 hcb
      have p1 : decide ((j : Int) < (l.length : Int)) = true := decide_eq_true (by omega)
      have p2 := eq_true (show 0 ≤ (j : Int) by omega)
      have p3 := eq_true (show (j : Int) < (l.length : Int) by omega)
      obtain ⟨k1, rfl⟩ : ∃ k1, gk = k1 + 1 := ⟨gk - 1, by have := HJ.out; omega⟩
      clear hlt
      by_cases cl : b.length > 1100
      · have p4 : decide ((b.length : Int) > 1100) = true := decide_eq_true (by omega)
        clear cl
        go_wp2
        go_ret
        exact ⟨rfl, HB.out⟩
      have p4 : decide ((b.length : Int) > 1100) = false := decide_eq_false (by omega)
      clear cl
      go_wp2_with fail
      refine (real_append w.heap.size D gS m q Wb u cW A vL S W L b Ab b.length cb wr (fun k => k < w.heap.size) HR.out (by have := HM.out; omega) (by have := HQ.out; have := HLT.out; have := HL.out; omega) (argF HCb.out HB.out) (fun k hk => HR.out.okB k hk) HCB.out HBb.out).mono ?_
      rintro x w5 ⟨rfl, A5, cW5, vL5, hr5, ht5, _⟩
      have HR5 := Aside0.mk hr5
      have HB5 := Aside0.mk (HR.out.bel ht5 HB.out (Nat.le_refl _))
      clear hr5 ht5
      go_wp2_with fail

      go_roundg k1
      case measure => omega
      case rel =>
        refine ⟨j + 1, q + 2000, _, _, _, _, _, _, ?_, ⟨by have := HJ.out; omega⟩, ⟨by have := HQ.out; omega⟩, HR5, HB5⟩
        exact congrArg (Value.int .i64) (widx (by have := HLT.out; have := HL.out; omega))
    · obtain rfl : l.length = j := by have := HJ.out; omega
      have p1 : decide ((l.length : Int) < (l.length : Int)) = false := decide_eq_false (by omega)
      have HM5 := Aside0.mk (show m ≤ 512 by have := HM.out; omega)
      have HQ5 := Aside0.mk (show q ≤ 900000 by have := HQ.out; have := HL.out; omega)
      clear hlt
      go_wp2_with fail
      refine (real_again w.heap.size D gS m q Wb u cW A vL S W L wr HR.out HM5.out HQ5.out).mono ?_
      rintro x w5 ⟨Wb2, vL2, A5, cW5, rfl, hr5, hl5, ht5, _⟩
      have HR5 := Aside0.mk hr5
      have HO5 := Aside0.mk hl5
      have HB5 := Aside0.mk (ht5.bel HB.out HR.out.size (fun k hk => (HR.out.own k (.inl hk)).1))
      have HLn := Aside0.mk (show L.length ≤ 1000000 by have := HR.out.log.fewL; have := HR.out.log.le; have := HM5.out; omega)
      clear hr5 hl5 ht5
      go_wp2_with fail
      refine (records_walk 66 w.heap.size Wb D u vL L w5 HO5.out HLn.out HR.out.log.few).mono ?_
      rintro x w6 ⟨v6, rfl, ho6, hb6⟩
      obtain ⟨A6, c6, rfl⟩ := Kd.R_slice ho6
      have HR6 := Aside0.mk (HR5.out.below hb6)
      have HO6 := Aside0.mk (HO5.out.below hb6)
      have HB6 := Aside0.mk (below_then HB5.out HB5.out.size hb6)
      have HX6 := Aside0.mk ho6
      clear ho6 hb6
      go_wp2_with fail
      refine (records_walk 66 w.heap.size Wb2 D u vL2 L w6 HR6.out.l HLn.out HR.out.log.few).mono ?_
      rintro x w7 ⟨v7, rfl, ho7, hb7⟩
      obtain ⟨A7, c7, rfl⟩ := Kd.R_slice ho7
      have HR7 := Aside0.mk (HR6.out.below hb7)
      have HO7 := Aside0.mk (HO6.out.below hb7)
      have HB7 := Aside0.mk (below_then HB6.out HB6.out.size hb7)
      have HX7 := Aside0.mk (Kd.R_reads' ho7)
      have HY7 := Aside0.mk (Kd.R_reads' (Kd.R_below HX6.out hb7))
      clear ho7 hb7
      obtain ⟨ks, hks⟩ := same_k L (by have := HLn.out; omega)
      go_wp2_with fail
      refine (colloquyref20_Same.calls ks A6 c6 L A7 c7 L true w7 HY7.out.2.2 HY7.out.2.1 HX7.out.2.2 HX7.out.2.1 hks).mono ?_
      rintro x w8 ⟨rfl, ⟨q8, hw8⟩⟩
      have HR8 := Aside0.mk (show Real w.heap.size D gS m 0 Wb2 u A5 cW5 vL2 (applyW S W) [] L w8 by rw [hw8]; exact HR7.out.below (pw_below_drewN (Below.refl _ _) _))
      have HO8 := Aside0.mk (show WalAt 66 w.heap.size Wb D vL L u w8 by rw [hw8]; exact HO7.out.below (pw_below_drewN (Below.refl _ _) _))
      have HB8 := Aside0.mk (show Below w.heap.size w w8 by rw [hw8]; exact pw_below_drewN HB7.out _)
      clear hw8 hks
      go_wp2_with fail
      refine (used_walk 66 w.heap.size Wb D u vL L w8 HO8.out).mono ?_
      rintro x w9 ⟨rfl, rfl⟩
      go_wp2_with fail
      refine (used_walk 66 w.heap.size Wb2 D u vL2 L w9 HR8.out.l).mono ?_
      rintro x w10 ⟨rfl, rfl⟩
      go_wp2_with fail
      refine (room_walk w.heap.size w.heap.size D gS cW5 m 0 Wb u A5 vL (applyW S W) [] L w10 HR8.out.d HO8.out HR8.out.p HM5.out HR8.out.log.le).mono ?_
      rintro x w11 ⟨rfl, hb11⟩
      have HR11 := Aside0.mk (HR8.out.below hb11)
      have HB11 := Aside0.mk (below_then HB8.out HB8.out.size hb11)
      clear hb11
      go_wp2_with fail
      refine (room_walk w.heap.size w.heap.size D gS cW5 m 0 Wb2 u A5 vL2 (applyW S W) [] L w11 HR11.out.d HR11.out.l HR11.out.p HM5.out HR11.out.log.le).mono ?_
      rintro x w12 ⟨rfl, hb12⟩
      have HR12 := Aside0.mk (HR11.out.below hb12)
      have HB12 := Aside0.mk (below_then HB11.out HB11.out.size hb12)
      clear hb12
      go_wp2_with fail
      refine (waiting_walk w.heap.size D gS _ _ (applyW S W) ([] : List (Int × List Int)) w12 HR12.out.d).mono ?_
      rintro x w13 ⟨rfl, rfl⟩
      go_wp2
      go_ret
      exact ⟨rfl, HB12.out⟩
def colloquylaw20_WalAgain.f (a0 : Int) (l1 : List (List Int)) : Option Bool := if okBs l1 = true then some true else none
theorem colloquylaw20_WalAgain.calls (a0 : Int) (A1 : Option Addr) (c1 : Nat) (l1 : List (List Int)) (r : Bool) (w : World) (hr1 : Kd.C (Kd.slice 5 (Kd.int .u8)) w A1 l1.length l1) (hc1 : l1.length ≤ c1) (h : colloquylaw20_WalAgain.f a0 l1 = some r) :
    Calls Try.prog 6 #[.int .i64 a0, .slice A1 l1.length c1] w fun e w' => e = .returned (.bool r) ∧ Below w.heap.size w w' := by
  unfold colloquylaw20_WalAgain.f at h
  by_cases c : okBs l1 = true
  · rw [if_pos c] at h
    obtain rfl := Option.some.inj h
    by_cases hn : a0 ≤ 100
    · by_cases hl : l1.length ≤ 20
      · exact WalAgain_in a0 A1 c1 l1 w hr1 hn hl (okBs_iff.1 c)
      · exact WalAgain_out2 a0 A1 c1 l1 w hr1 hn (by omega)
    · exact WalAgain_out1 a0 A1 c1 l1 w hr1 (by omega)
  · rw [if_neg c] at h; cases h
end Go.Proofs.Ytoafbpbnlmcklaa.PAll
