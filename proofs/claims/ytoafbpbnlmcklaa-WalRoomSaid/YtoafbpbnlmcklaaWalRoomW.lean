/- WalRoom over the log in memory. Printed by wip/tools/genwal.py. -/
import Derived.Test.YtoafbpbnlmcklaaMWalC
namespace Go.Proofs.Ytoafbpbnlmcklaa.PAll
open Go.RowKit Go.Proofs.YtoafbpbnlmcklaaW.PrintWords Go.Proofs.YtoafbpbnlmcklaaW.PrintLast Go.Proofs.YtoafbpbnlmcklaaW.PrintMore Go.Proofs.Ytoafbpbnlmcklaa.Pure
set_option linter.unusedVariables false
set_option linter.unusedSimpArgs false
set_option maxHeartbeats 2000000 in
set_option maxRecDepth 100000 in
theorem WalRoom_out1 (n : Int) (A0 : Option Addr) (c0 : Nat) (l : List (List Int)) (w : World) (hr0 : Kd.C (Kd.slice 5 (Kd.int .u8)) w A0 l.length l) (hn : 100 < n) : Calls Try.prog 5 #[.int .i64 n, .slice A0 l.length c0] w fun x w' => x = .returned (.bool true) ∧ Below w.heap.size w w' := by
  have g1 : decide (n > (100 : Int)) = true := decide_eq_true (by omega)
  clear hn

  have HR0 := Aside0.mk hr0
  clear hr0
  go_enter Try.func5, Try.ntmps5
  go_wp2_with fail
  refine (awake_walk w).mono ?_
  rintro x w1 ⟨rfl, hb1⟩
  have HB1 := Aside0.mk hb1
  clear hb1
  go_wp2_with fail
  refine (new_tot n w1).mono ?_
  rintro x w2 ⟨D, gS, rfl, hd2, hb2⟩
  have HD2 := Aside0.mk (hd2.lower HB1.out.size)
  have HB2 := Aside0.mk (below_then HB1.out HB1.out.size hb2)
  clear hd2 hb2 HB1
  go_wp2
  go_ret
  exact ⟨rfl, HB2.out⟩
set_option maxHeartbeats 2000000 in
set_option maxRecDepth 100000 in
theorem WalRoom_out2 (n : Int) (A0 : Option Addr) (c0 : Nat) (l : List (List Int)) (w : World) (hr0 : Kd.C (Kd.slice 5 (Kd.int .u8)) w A0 l.length l) (hn : n ≤ 100) (hl : 20 < l.length) : Calls Try.prog 5 #[.int .i64 n, .slice A0 l.length c0] w fun x w' => x = .returned (.bool true) ∧ Below w.heap.size w w' := by
  have g1 : decide (n > (100 : Int)) = false := decide_eq_false (by omega)
  have g2 : decide ((l.length : Int) > 20) = true := decide_eq_true (by omega)
  clear hn hl

  have HR0 := Aside0.mk hr0
  clear hr0
  go_enter Try.func5, Try.ntmps5
  go_wp2_with fail
  refine (awake_walk w).mono ?_
  rintro x w1 ⟨rfl, hb1⟩
  have HB1 := Aside0.mk hb1
  clear hb1
  go_wp2_with fail
  refine (new_tot n w1).mono ?_
  rintro x w2 ⟨D, gS, rfl, hd2, hb2⟩
  have HD2 := Aside0.mk (hd2.lower HB1.out.size)
  have HB2 := Aside0.mk (below_then HB1.out HB1.out.size hb2)
  clear hd2 hb2 HB1
  go_wp2
  go_ret
  exact ⟨rfl, HB2.out⟩
set_option maxHeartbeats 8000000 in
set_option maxRecDepth 100000 in
theorem WalRoom_in (n : Int) (A0 : Option Addr) (c0 : Nat) (l : List (List Int)) (w : World) (hr0 : Kd.C (Kd.slice 5 (Kd.int .u8)) w A0 l.length l) (hn : n ≤ 100) (hl : l.length ≤ 20) (hbs : ∀ b ∈ l, Bs b) : Calls Try.prog 5 #[.int .i64 n, .slice A0 l.length c0] w fun x w' => x = .returned (.bool true) ∧ Below w.heap.size w w' := by
  have HBS := Aside0.mk hbs
  clear hbs
  have g1 : decide (n > (100 : Int)) = false := decide_eq_false (by omega)
  have g2 : decide ((l.length : Int) > 20) = false := decide_eq_false (by omega)
  have HM := Aside0.mk (clampN_100 hn)
  have HL := Aside0.mk hl
  clear hn hl

  have HR0 := Aside0.mk hr0
  clear hr0
  go_enter Try.func5, Try.ntmps5
  go_wp2_with fail
  refine (awake_walk w).mono ?_
  rintro x w1 ⟨rfl, hb1⟩
  have HB1 := Aside0.mk hb1
  clear hb1
  go_wp2_with fail
  refine (new_tot n w1).mono ?_
  rintro x w2 ⟨D, gS, rfl, hd2, hb2⟩
  have HD2 := Aside0.mk (hd2.lower HB1.out.size)
  have HB2 := Aside0.mk (below_then HB1.out HB1.out.size hb2)
  clear hd2 hb2 HB1
  obtain ⟨m, hm⟩ : ∃ m, m = clampN n := ⟨_, rfl⟩
  rw [← hm] at HD2 HM
  clear hm
  go_wp2_with fail
  refine (real_open w.heap.size D gS m 0 w2 HD2.out (by have := HM.out; omega)).mono ?_
  rintro x w3 ⟨Wb, vL0, A3, cW3, rfl, hr3, hb3⟩
  have HR3 := Aside0.mk hr3
  have HB3 := Aside0.mk (HB2.out.trans hb3)
  clear hr3 hb3 HB2 HD2
  obtain ⟨S, hS⟩ : ∃ S, S = List.replicate m zeroS := ⟨_, rfl⟩
  rw [← hS] at HR3
  clear hS
  go_wp2
  go_loopg [8] l.length (fun kq v8 w' => ∃ (j q u : Nat) (W : List (Int × List Int)) (L : List (List Int)) (A : Option Addr) (cW : Nat) (vL : Value), v8 = .int .i64 (j : Int) ∧ Aside0 (j + kq = l.length) ∧ Aside0 (q = 2000 * j) ∧ Aside0 (Real w.heap.size D gS m q Wb u A cW vL S W L w') ∧ Aside0 (Below w.heap.size w w'))
  case atStart => exact ⟨0, 0, 0, [], [], A3, cW3, vL0, rfl, ⟨by omega⟩, ⟨rfl⟩, HR3, HB3⟩
  case round =>
    obtain ⟨j, q, u, W, L, A, cW, vL, rfl, HJ, HQ, HR, HB⟩ := hrel
    by_cases hlt : j < l.length
    · obtain ⟨ad, Ab, cb, e, hx0, hcb, hCb⟩ := at_L1 HR0.out (j : Int) (by omega) (by omega)
      subst e
      obtain ⟨b, hb⟩ : ∃ b, b = rd_L1 l (j : Int) := ⟨_, rfl⟩
      rw [← hb] at hx0 hcb hCb
      rw [Int.toNat_natCast] at hx0
      have HBb := Aside0.mk (show Bs b by rw [hb]; exact HBS.out _ (rd_mem hlt))
      have HCb := Aside0.mk hCb
      have HX0 := Aside0.mk hx0
      have y0 := kfact hx0 HB.out
      have HLT := Aside0.mk hlt
      have HCB := Aside0.mk hcb
      clear hb hCb hx0 hcb
      have p1 : decide ((j : Int) < (l.length : Int)) = true := decide_eq_true (by omega)
      have p2 := eq_true (show 0 ≤ (j : Int) by omega)
      have p3 := eq_true (show (j : Int) < (l.length : Int) by omega)
      obtain ⟨k1, rfl⟩ : ∃ k1, gk = k1 + 1 := ⟨gk - 1, by have := HJ.out; omega⟩
      clear hlt
      by_cases cl : b.length > 1100
      · have p4 : decide ((b.length : Int) > 1100) = true := decide_eq_true (by omega)
        clear cl
        go_wp2
        go_ret
        exact ⟨rfl, HB.out⟩
      have p4 : decide ((b.length : Int) > 1100) = false := decide_eq_false (by omega)
      clear cl
      go_wp2_with fail
      refine (room_walk w.heap.size w.heap.size D gS cW m q Wb u A vL S W L wr HR.out.d HR.out.l HR.out.p (by have := HM.out; omega) HR.out.log.le).mono ?_
      rintro x w4 ⟨rfl, hb4⟩
      have HR4 := Aside0.mk (HR.out.below hb4)
      have HB4 := Aside0.mk (below_then HB.out HB.out.size hb4)
      clear hb4 y0
      have y0 := kfact HX0.out HB4.out
      go_wp2_with fail
      refine (real_append w.heap.size D gS m q Wb u cW A vL S W L b Ab b.length cb w4 (fun k => k < w.heap.size) HR4.out (by have := HM.out; omega) (by have := HQ.out; have := HLT.out; have := HL.out; omega) (argF HCb.out HB4.out) (fun k hk => HR4.out.okB k hk) HCB.out HBb.out).mono ?_
      rintro x w5 ⟨rfl, A5, cW5, vL5, hr5, ht5, _⟩
      have HR5 := Aside0.mk hr5
      have HB5 := Aside0.mk (HR4.out.bel ht5 HB4.out (Nat.le_refl _))
      clear hr5 ht5 y0
      have y0 := kfact HX0.out HB5.out
      have HFR := Aside0.mk (fits_room HR.out.log.le b)
      have q3 : decide (roomF m (appU m u b) > roomF m u) = false := decide_eq_false (by have : u ≤ appU m u b := (by unfold appU; split <;> omega); have := room_mono (m := m) this; omega)
      obtain ⟨R, hR⟩ : ∃ R, R = roomF m u := ⟨_, rfl⟩
      rw [← hR] at q3 HFR ⊢
      obtain ⟨E, hE⟩ : ∃ E, E = appE m u b := ⟨_, rfl⟩
      rw [← hE] at HFR ⊢
      clear hR hE
      by_cases ce : E = 0
      · have q1 : (E == 0) = true := beq_iff_eq.mpr ce
        have q2 : decide ((b.length : Int) ≤ R) = true := decide_eq_true (HFR.out.1 ce)
        clear ce
        go_wp2_with fail
        refine (room_walk w.heap.size w.heap.size D gS cW5 m (q + 2000) Wb (appU m u b) A5 vL5 S (appW m u W b) (appL m u L b) w5 HR5.out.d HR5.out.l HR5.out.p (by have := HM.out; omega) HR5.out.log.le).mono ?_
        rintro x w6 ⟨rfl, hb6⟩
        have HR6 := Aside0.mk (HR5.out.below hb6)
        have HB6 := Aside0.mk (below_then HB5.out HB5.out.size hb6)
        clear hb6
        go_wp2_with fail

        go_roundg k1
        case measure => omega
        case rel =>
          refine ⟨j + 1, q + 2000, _, _, _, _, _, _, ?_, ⟨by have := HJ.out; omega⟩, ⟨by have := HQ.out; omega⟩, HR6, HB6⟩
          exact congrArg (Value.int .i64) (widx (by have := HLT.out; have := HL.out; omega))
      have q1 : (E == 0) = false := beq_eq_false_iff_ne.mpr ce
      have q2 : decide ((b.length : Int) ≤ R) = false := decide_eq_false (fun h => ce (HFR.out.2 h))
      clear ce
      go_wp2_with fail
      refine (room_walk w.heap.size w.heap.size D gS cW5 m (q + 2000) Wb (appU m u b) A5 vL5 S (appW m u W b) (appL m u L b) w5 HR5.out.d HR5.out.l HR5.out.p (by have := HM.out; omega) HR5.out.log.le).mono ?_
      rintro x w6 ⟨rfl, hb6⟩
      have HR6 := Aside0.mk (HR5.out.below hb6)
      have HB6 := Aside0.mk (below_then HB5.out HB5.out.size hb6)
      clear hb6
      go_wp2_with fail

      go_roundg k1
      case measure => omega
      case rel =>
        refine ⟨j + 1, q + 2000, _, _, _, _, _, _, ?_, ⟨by have := HJ.out; omega⟩, ⟨by have := HQ.out; omega⟩, HR6, HB6⟩
        exact congrArg (Value.int .i64) (widx (by have := HLT.out; have := HL.out; omega))
    · obtain rfl : l.length = j := by have := HJ.out; omega
      have p1 : decide ((l.length : Int) < (l.length : Int)) = false := decide_eq_false (by omega)
      have HM5 := Aside0.mk (show m ≤ 512 by have := HM.out; omega)
      have HQ5 := Aside0.mk (show q ≤ 900000 by have := HQ.out; have := HL.out; omega)
      clear hlt
      go_wp2_with fail
      refine (room_walk w.heap.size w.heap.size D gS cW m q Wb u A vL S W L wr HR.out.d HR.out.l HR.out.p HM5.out HR.out.log.le).mono ?_
      rintro x w4 ⟨rfl, hb4⟩
      have HR4 := Aside0.mk (HR.out.below hb4)
      have HB4 := Aside0.mk (below_then HB.out HB.out.size hb4)
      clear hb4
      have hsp := roomL_spec ((m - u) * 15) (min ((m - u) * 15) 1024)
      rcases hsp with ⟨h1, _⟩ | ⟨r, h1, h2, _, _⟩
      · have h1' : roomF m u = -1 := h1
        rw [h1']
        clear h1 h1'
        go_wp2
        go_ret
        exact ⟨rfl, HB4.out⟩
      have HRM := Aside0.mk (show roomF m u = (r : Int) from h1)
      have HR10 := Aside0.mk (show r ≤ 1024 by omega)
      rw [HRM.out]
      clear h1 h2
      have g5 : decide ((r : Int) ≥ 0) = true := decide_eq_true (by omega)
      have g6 : decide ((r : Int) < 0) = false := decide_eq_false (by omega)
      go_wp2_with ((with_reducible refine gate_dst (N := 82) rfl ?_); refine gate_guard (by rfl) ?_; refine Kd.R_make (Kd.int .u8) (w0 := w4) w4.heap.size 5 rfl (N := 82) rfl 28 _ _ rfl (r : Int) rfl rfl Try.underlying28 (.int .u8 0) 1 info5 rfl (by decide) (by omega) 0 (ok := fun _ => True) (okp := fun _ => True) rfl (fun _ hk => hk) trivial (by omega) (by have := HR10.out; omega) (Below.refl _ _) (Nat.le_refl _) ?_; intro vz wz hoz hbz hgz hnz; have HRz := Aside0.mk (HR4.out.below hbz); have HBz := Aside0.mk (below_then HB4.out HB4.out.size hbz); rw [Int.toNat_natCast] at hoz; obtain ⟨Az, cz, ez⟩ := Kd.R_slice hoz; rw [List.length_replicate] at ez; subst ez; have HZ := Aside0.mk hoz; clear hoz hbz hgz hnz)
      have hzr := (Kd.R_reads' HZ.out).2.1
      have hFz := F5 HZ.out
      refine (real_append w.heap.size D gS m q Wb u cW A vL S W L (List.replicate r 0) Az r cz wz _ HRz.out HM5.out HQ5.out hFz (fun k hk => HRz.out.ok5 k hk) hzr (Bs.replicate ⟨by omega, by omega⟩)).mono ?_
      rintro x w5 ⟨rfl, A5, cW5, vL5, hr5, ht5, _⟩
      have HR5 := Aside0.mk hr5
      have HB5 := Aside0.mk (HRz.out.bel ht5 HBz.out (Nat.le_refl _))
      clear hr5 ht5 hFz hzr
      have e0 : appE m u (List.replicate r 0) = 0 := (fits_room HR.out.log.le _).2 (by rw [List.length_replicate, HRM.out]; exact Int.le_refl _)
      rw [e0]
      clear e0
      by_cases c10 : r = 1024
      · have g7 : ((r : Int) == 1024) = true := beq_iff_eq.mpr (by omega)
        clear c10
        go_wp2
        go_ret
        exact ⟨rfl, HB5.out⟩
      have g7 : ((r : Int) == 1024) = false := beq_eq_false_iff_ne.mpr (by omega)
      have HU := Aside0.mk (room_last HR.out.log.le HRM.out c10 (List.replicate r 0) (by rw [List.length_replicate]))
      clear c10
      go_wp2_with fail
      refine (used_walk 66 w.heap.size Wb D _ vL5 _ w5 HR5.out.l).mono ?_
      rintro x w6 ⟨rfl, rfl⟩
      rw [show appU m u (List.replicate r 0) = m by rw [appU, if_pos HU.out.1, HU.out.2]]
      go_wp2_with fail
      refine (len_m w.heap.size D gS cW5 m (q + 2000) A5 S _ w6 HR5.out.d HR5.out.p).mono ?_
      rintro x w7 ⟨rfl, rfl⟩
      go_wp2
      go_ret
      exact ⟨rfl, HB5.out⟩
def colloquylaw20_WalRoom.f (a0 : Int) (l1 : List (List Int)) : Option Bool := if okBs l1 = true then some true else none
theorem colloquylaw20_WalRoom.calls (a0 : Int) (A1 : Option Addr) (c1 : Nat) (l1 : List (List Int)) (r : Bool) (w : World) (hr1 : Kd.C (Kd.slice 5 (Kd.int .u8)) w A1 l1.length l1) (hc1 : l1.length ≤ c1) (h : colloquylaw20_WalRoom.f a0 l1 = some r) :
    Calls Try.prog 5 #[.int .i64 a0, .slice A1 l1.length c1] w fun e w' => e = .returned (.bool r) ∧ Below w.heap.size w w' := by
  unfold colloquylaw20_WalRoom.f at h
  by_cases c : okBs l1 = true
  · rw [if_pos c] at h
    obtain rfl := Option.some.inj h
    by_cases hn : a0 ≤ 100
    · by_cases hl : l1.length ≤ 20
      · exact WalRoom_in a0 A1 c1 l1 w hr1 hn hl (okBs_iff.1 c)
      · exact WalRoom_out2 a0 A1 c1 l1 w hr1 hn (by omega)
    · exact WalRoom_out1 a0 A1 c1 l1 w hr1 (by omega)
  · rw [if_neg c] at h; cases h
end Go.Proofs.Ytoafbpbnlmcklaa.PAll
