/- DiskDoes over the disk and the reference's disk in memory. Printed by wip/tools/gendoes.py. -/
import Derived.Test.YtfmgealooebciaaRefSync
import Derived.StillTailTactics
namespace Go.Proofs.Ytfmgealooebciaa.PAll
open Go.RowKit Go.Proofs.YtfmgealooebciaaW.PrintWords Go.Proofs.YtfmgealooebciaaW.PrintLast Go.Proofs.YtfmgealooebciaaW.PrintMore
set_option linter.unusedVariables false
set_option linter.unusedSimpArgs false
theorem refwrite_tot (base D m j : Nat) (AS : Option Addr) (cS : Nat) (vW : Value) (S : List (List Int)) (W : List (Int × List Int)) (i : Int) (b : List Int) (Ab : Option Addr) (n cb : Nat) (w : World) (h : RefAt base D (.slice AS m cS) vW S W w) (hp : Parts m j S W) (hj : j < 1099511627776) (hC : Kd.C (Kd.int .u8) w Ab n b) :
    Calls Try.prog 14 #[.pointer (some ⟨D, 0, none⟩), .int .i64 i, .slice Ab n cb] w fun x w' => x = .returned (.int .i64 (writeE S i b)) ∧ ∃ vW', RefAt base D (.slice AS m cS) vW' S (writeW S W i b) w' ∧ RTouch D (.slice AS m cS) vW w w' := by
  obtain rfl : b.length = n := hC.1
  obtain rfl : S.length = m := hp.len
  by_cases c : 0 ≤ i ∧ i < (S.length : Int) ∧ b.length = 16
  · obtain ⟨c0, c1, c2⟩ := c
    rw [writeE, if_pos ⟨c0, c1, c2⟩, writeW, if_pos ⟨c0, c1, c2⟩]
    rw [c2] at hC ⊢
    refine (refwrite_yes base D AS cS vW S W i b Ab cb w h hC (decide_eq_false (by omega)) (decide_eq_false (by omega)) (Nat.lt_of_le_of_lt hp.few hj)).mono ?_
    rintro x w' ⟨rfl, vW', hr, ht, _⟩
    exact ⟨rfl, vW', hr, ht⟩
  · rw [writeE, if_neg c, writeW, if_neg c]
    refine (refwrite_no base D AS cS vW Ab S W i b.length cb w h ?_).mono ?_
    · by_cases c0 : i < 0
      · exact .inl (decide_eq_true c0)
      · by_cases c1 : i < (S.length : Int)
        · exact .inr (.inr ⟨decide_eq_false c0, decide_eq_false (by omega), bne_iff_ne.mpr (fun e => c ⟨by omega, c1, by omega⟩)⟩)
        · exact .inr (.inl ⟨decide_eq_false c0, decide_eq_true (by omega)⟩)
    · rintro x w' ⟨rfl, rfl⟩
      exact ⟨rfl, vW, h, RTouch.refl _ _ _ _⟩
theorem refread_tot (base D m j : Nat) (AS : Option Addr) (cS : Nat) (vW : Value) (S : List (List Int)) (W : List (Int × List Int)) (i : Int) (w : World) (h : RefAt base D (.slice AS m cS) vW S W w) (hp : Parts m j S W) (hj : j < 1099511627776) :
    Calls Try.prog 20 #[.pointer (some ⟨D, 0, none⟩), .int .i64 i] w fun x w' => ∃ v, x = .returned (.tuple #[v, .int .i64 (readE S i)]) ∧ Kd.R (Kd.int .u8) 5 w' w.heap.size (fun _ => True) v (readL S W i) ∧ Below w.heap.size w w' := by
  obtain rfl : S.length = m := hp.len
  exact refread_walk base D S.length j AS cS vW S W i w h hp hj
theorem len_tot (base D gS cW m j : Nat) (A : Option Addr) (S : List (List Int)) (W : List (Int × List Int)) (w : World) (h : DiskAt base D gS A cW S W w) (hp : Parts m j S W) :
    Calls Try.prog 22 #[.pointer (some ⟨D, 0, none⟩)] w fun x w' => x = .returned (.int .i64 (m : Int)) ∧ w' = w := by
  obtain rfl : S.length = m := hp.len
  exact len_walk base D gS cW A S W w h
set_option maxHeartbeats 2000000 in
set_option maxRecDepth 100000 in
theorem does_other (n : Int) (A0 : Option Addr) (c0 : Nat) (l : List S33) (at_ : Int) (w : World) (hr0 : Kd.C k33 w A0 l.length l) (hc0 : l.length ≤ c0) (hf : colloquylaw19_few.f 61 l = some false) : Calls Try.prog 3 #[.int .i64 n, .slice A0 l.length c0, .int .i64 at_] w fun x w' => x = .returned (.bool true) ∧ Below w.heap.size w w' := by
  have HR0 := Aside0.mk hr0
  have HF := Aside0.mk hf
  clear hr0 hf
  go_enter Try.func3, Try.ntmps3
  go_wp2_with fail
  refine (awake_walk w).mono ?_
  rintro x w1 ⟨rfl, hb1⟩
  have HB1 := Aside0.mk hb1
  clear hb1
  go_wp2_with fail
  refine (colloquylaw19_few.calls 61 A0 c0 l false w1 (Kd.C_below HR0.out HB1.out) hc0 HF.out).mono ?_
  rintro x w2 ⟨rfl, ⟨q2, hw2⟩⟩
  have HB2 := Aside0.mk (show Below w.heap.size w w2 by rw [hw2]; exact pw_below_drewN HB1.out _)
  clear hw2 HB1
  go_wp2_with fail
  refine (new_tot n w2).mono ?_
  rintro x w3 ⟨D, gS, rfl, hd3, hb3⟩
  have HD3 := Aside0.mk (hd3.lower HB2.out.size)
  have HB3 := Aside0.mk (below_then HB2.out HB2.out.size hb3)
  clear hd3 hb3
  go_wp2_with fail
  refine (refnew_tot n w3).mono ?_
  rintro x w4 ⟨AS, cS, rfl, hr4, hb4⟩
  have HD4 := Aside0.mk (HD3.out.below hb4)
  have HR4 := Aside0.mk (hr4.lower HB3.out.size)
  have HB4 := Aside0.mk (below_then HB3.out HB3.out.size hb4)
  obtain ⟨D2, hD2⟩ : ∃ D2, D2 = w3.heap.size := ⟨_, rfl⟩
  rw [← hD2] at HR4 ⊢
  clear hr4 hb4 HD3 HB2 HB3 hD2
  go_wp2
  go_ret
  exact ⟨rfl, HB4.out⟩
set_option maxHeartbeats 16000000 in
set_option maxRecDepth 100000 in
theorem does_few (n : Int) (A0 : Option Addr) (c0 : Nat) (l : List S33) (at_ : Int) (w : World) (hr0 : Kd.C k33 w A0 l.length l) (hc0 : l.length ≤ c0) (hf : colloquylaw19_few.f 61 l = some true) (hl : l.length ≤ 60) : Calls Try.prog 3 #[.int .i64 n, .slice A0 l.length c0, .int .i64 at_] w fun x w' => x = .returned (.bool true) ∧ Below w.heap.size w w' := by
  have HL := Aside0.mk hl
  clear hl
  have HR0 := Aside0.mk hr0
  have HF := Aside0.mk hf
  clear hr0 hf
  go_enter Try.func3, Try.ntmps3
  go_wp2_with fail
  refine (awake_walk w).mono ?_
  rintro x w1 ⟨rfl, hb1⟩
  have HB1 := Aside0.mk hb1
  clear hb1
  go_wp2_with fail
  refine (colloquylaw19_few.calls 61 A0 c0 l true w1 (Kd.C_below HR0.out HB1.out) hc0 HF.out).mono ?_
  rintro x w2 ⟨rfl, ⟨q2, hw2⟩⟩
  have HB2 := Aside0.mk (show Below w.heap.size w w2 by rw [hw2]; exact pw_below_drewN HB1.out _)
  clear hw2 HB1
  go_wp2_with fail
  refine (new_tot n w2).mono ?_
  rintro x w3 ⟨D, gS, rfl, hd3, hb3⟩
  have HD3 := Aside0.mk (hd3.lower HB2.out.size)
  have HB3 := Aside0.mk (below_then HB2.out HB2.out.size hb3)
  clear hd3 hb3
  go_wp2_with fail
  refine (refnew_tot n w3).mono ?_
  rintro x w4 ⟨AS, cS, rfl, hr4, hb4⟩
  have HD4 := Aside0.mk (HD3.out.below hb4)
  have HR4 := Aside0.mk (hr4.lower HB3.out.size)
  have HB4 := Aside0.mk (below_then HB3.out HB3.out.size hb4)
  obtain ⟨D2, hD2⟩ : ∃ D2, D2 = w3.heap.size := ⟨_, rfl⟩
  rw [← hD2] at HR4 ⊢
  clear hr4 hb4 HD3 HB2 HB3 hD2
  obtain ⟨m, hm⟩ : ∃ m, m = clampN n := ⟨_, rfl⟩
  rw [← hm] at HD4 HR4
  clear hm
  go_wp2
  go_loopg [11] l.length (fun kq v11 w' => ∃ (j : Nat) (S : List (List Int)) (W : List (Int × List Int)) (A : Option Addr) (cW : Nat) (vW : Value), v11 = .int .i64 (j : Int) ∧ Aside0 (j + kq = l.length) ∧ Aside0 (DiskAt w.heap.size D gS A cW S W w') ∧ Aside0 (RefAt w.heap.size D2 (.slice AS m cS) vW S W w') ∧ Aside0 (Parts m j S W) ∧ Aside0 (Below w.heap.size w w'))
  case atStart => exact ⟨0, _, [], none, 0, _, rfl, ⟨by omega⟩, HD4, HR4, ⟨Parts.new m⟩, HB4⟩
  case round =>
    obtain ⟨j, S, W, A, cW, vW, rfl, HJ, HD, HR, HP, HB⟩ := hrel
    by_cases hlt : j < l.length
    · obtain ⟨ad, AB, cB, AK, cK, e, hx0, hx1, hx2, hx3, hx4, hx5, hlB, hiB, hlK, hiK⟩ := at_T33 HR0.out (j : Int) (by omega) (by omega)
      cases e
      obtain ⟨o, ho⟩ : ∃ o, o = rd_T33 l (j : Int) := ⟨_, rfl⟩
      rw [← ho] at hx0 hx1 hx2 hx3 hx4 hx5 hlB hiB hlK hiK
      rw [Int.toNat_natCast] at hx0 hx1 hx2 hx3 hx4 hx5
      have HX1 := Aside0.mk hx1
      have HX2 := Aside0.mk hx2
      have HX3 := Aside0.mk hx3
      have HX4 := Aside0.mk hx4
      have HX5 := Aside0.mk hx5
      have HIB := Aside0.mk hiB
      have HLB := Aside0.mk hlB
      have HIK := Aside0.mk hiK
      have HLK := Aside0.mk hlK
      have HLT := Aside0.mk hlt
      replace hx0 := kfact hx0 HB.out
      clear ho hx1 hx2 hx3 hx4 hx5 hlB hiB hlK hiK
      have p1 : decide ((j : Int) < (l.length : Int)) = true := decide_eq_true (by omega)
      have p2 := eq_true (show 0 ≤ (j : Int) by omega)
      have p3 := eq_true (show (j : Int) < (l.length : Int) by omega)
      have HJn := Aside0.mk (show j < 1099511627776 by have := HL.out; omega)
      have HWn := Aside0.mk (show W.length < 1099511627776 by have := HP.out.few; have := HL.out; omega)
      obtain ⟨k1, rfl⟩ : ∃ k1, gk = k1 + 1 := ⟨gk - 1, by have := HJ.out; omega⟩
      clear hlt
      by_cases ck : o.f0 = 0
      · have ckb : (o.f0 == 0) = true := beq_iff_eq.mpr ck
        clear ck
        have HBd := Aside0.mk (below_drew HB.out)
        have y1 := kfact HX1.out HB.out
        have z1 := kfact HX1.out HBd.out
        have y2 := kfact HX2.out HB.out
        have z2 := kfact HX2.out HBd.out
        have HDd := Aside0.mk (HD.out.below (below_drew (Below.refl _ _)))
        have HRd := Aside0.mk (HR.out.below (below_drew (Below.refl _ _)))
        go_wp2_with fail
        go_still_tail 11, (by kernel_rfl)
        change wpList _ _ _ _ _ wr.drew
        go_wp2_with fail
        refine (write_walk w.heap.size D gS cW A AB S W o.f1 o.f2 _ cB _ HDd.out HWn.out (Kd.C_below HIB.out HBd.out) HLB.out).mono ?_
        rintro x w5 ⟨rfl, A5, cW5, hd5, ht5, _⟩
        have HD5 := Aside0.mk hd5
        have HR5 := Aside0.mk (HRd.out.touch HDd.out ht5)
        have HB5 := Aside0.mk (ht5.bel' HBd.out HDd.out (Nat.le_refl _))
        clear hd5 ht5 y1 z1 y2 z2 HBd HDd HRd
        have HBd := Aside0.mk (below_drew HB5.out)
        have y1 := kfact HX1.out HB5.out
        have z1 := kfact HX1.out HBd.out
        have y2 := kfact HX2.out HB5.out
        have z2 := kfact HX2.out HBd.out
        have HDd := Aside0.mk (HD5.out.below (below_drew (Below.refl _ _)))
        have HRd := Aside0.mk (HR5.out.below (below_drew (Below.refl _ _)))
        go_wp2_with fail
        go_still_tail 11, (by kernel_rfl)
        change wpList _ _ _ _ _ w5.drew
        go_wp2_with fail
        refine (refwrite_tot w.heap.size D2 m j AS cS vW S W o.f1 o.f2 AB _ cB _ HRd.out HP.out HJn.out (Kd.C_below HIB.out HBd.out)).mono ?_
        rintro x w6 ⟨rfl, vW6, hr6, ht6⟩
        have HR6 := Aside0.mk hr6
        have HD6 := Aside0.mk (HDd.out.rtouch HRd.out ht6)
        have HB6 := Aside0.mk (ht6.bel HBd.out HRd.out (Nat.le_refl _))
        have HP6 := Aside0.mk (HP.out.writeW o.f1 o.f2)
        clear hr6 ht6 y1 z1 y2 z2 HBd HDd HRd
        have HLn := Aside0.mk (show (writeW S W o.f1 o.f2).length < 1099511627776 by have := HP6.out.few; have := HL.out; have := HLT.out; omega)
        go_wp2_with fail
        refine (read_walk w.heap.size D gS _ m (j + 1) _ S (writeW S W o.f1 o.f2) at_ w6 HD6.out HP6.out (by have := HLT.out; have := HL.out; omega)).mono ?_
        rintro x w7 ⟨v7, rfl, ho7, hb7⟩
        have HD7 := Aside0.mk (HD6.out.below hb7)
        have HR7 := Aside0.mk (HR6.out.below hb7)
        have HB7 := Aside0.mk (below_then HB6.out HB6.out.size hb7)
        have HO7 := Aside0.mk ho7
        clear ho7 hb7
        go_wp2_with fail
        refine (refread_tot w.heap.size D2 m (j + 1) AS cS _ S (writeW S W o.f1 o.f2) at_ w7 HR7.out HP6.out (by have := HLT.out; have := HL.out; omega)).mono ?_
        rintro x w8 ⟨v8, rfl, ho8, hb8⟩
        have HD8 := Aside0.mk (HD7.out.below hb8)
        have HR8 := Aside0.mk (HR7.out.below hb8)
        have HB8 := Aside0.mk (below_then HB7.out HB7.out.size hb8)
        have HO8 := Aside0.mk ho8
        have HO78 := Aside0.mk (Kd.R_below HO7.out hb8)
        clear ho8 hb8
        have hcvA := fun q => own_string (P := Try.prog) Try.underlying30 Try.underlying5 Try.underlying9 (Kd.own_of_R (Kd.R_drewN HO78.out q))
        have hcvB := fun q => own_string (P := Try.prog) Try.underlying30 Try.underlying5 Try.underlying9 (Kd.own_of_R (Kd.R_drewN HO8.out q))
        obtain ⟨A8, c8, e8⟩ := rw_slice HR8.out
        subst e8
        have qr1 : w8.cell? ⟨D2, 1, none⟩ = some (.slice A8 (writeW S W o.f1 o.f2).length c8) := (blk_cell HR8.out.blk 1).trans rfl
        have qr0 : w8.cell? ⟨D2, 0, none⟩ = some (.slice AS m cS) := (blk_cell HR8.out.blk 0).trans rfl
        go_wp2_with fail
        go_quiet (first | (go_at_call 21; exact Calls.quiet_of_same (waiting_walk w.heap.size D gS _ _ S (writeW S W o.f1 o.f2) _ (HD8.out.below (pw_below_drewN (Below.refl _ _) _)))) | (go_at_call 22; exact Calls.quiet_of_same (len_tot w.heap.size D gS _ m (j + 1) _ S (writeW S W o.f1 o.f2) _ (HD8.out.below (pw_below_drewN (Below.refl _ _) _)) HP6.out)))
        clear hcvA hcvB qr1 qr0
        go_wp2_with fail

        go_roundg k1
        case measure => omega
        case rel =>
          refine ⟨j + 1, _, _, _, _, _, ?_, ⟨by have := HJ.out; omega⟩, ⟨HD8.out.below (pw_below_drewN (Below.refl _ _) _)⟩, ⟨HR8.out.below (pw_below_drewN (Below.refl _ _) _)⟩, HP6, ⟨pw_below_drewN HB8.out _⟩⟩
          exact congrArg (Value.int .i64) (widx (by have := HLT.out; have := HL.out; omega))
      · have ckb : (o.f0 == 0) = false := beq_eq_false_iff_ne.mpr ck
        clear ck
        by_cases ck : o.f0 = 1
        · have ckc : (o.f0 == 1) = true := beq_iff_eq.mpr ck
          clear ck
          go_wp2_with fail
          refine (sync_tot w.heap.size D gS cW m j A S W wr HD.out HP.out HJn.out).mono ?_
          rintro x w5 ⟨rfl, hd5, ht5⟩
          have HD5 := Aside0.mk hd5
          have HR5 := Aside0.mk (HR.out.touch HD.out ht5)
          have HB5 := Aside0.mk (ht5.bel' HB.out HD.out (Nat.le_refl _))
          clear hd5 ht5
          go_wp2_with fail
          refine (refsync_walk w.heap.size D2 m j (.slice AS m cS) vW S W w5 HR5.out HP.out HJn.out).mono ?_
          rintro x w6 ⟨rfl, hr6, ht6⟩
          have HR6 := Aside0.mk hr6
          have HD6 := Aside0.mk (HD5.out.rtouch HR5.out ht6)
          have HB6 := Aside0.mk (ht6.bel HB5.out HR5.out (Nat.le_refl _))
          have HP6 := Aside0.mk HP.out.sync
          clear hr6 ht6

          have HLn := Aside0.mk (show ([] : List (Int × List Int)).length < 1099511627776 by have := HP6.out.few; have := HL.out; have := HLT.out; omega)
          go_wp2_with fail
          refine (read_walk w.heap.size D gS _ m (j + 1) _ (applyW S W) ([] : List (Int × List Int)) at_ w6 HD6.out HP6.out (by have := HLT.out; have := HL.out; omega)).mono ?_
          rintro x w7 ⟨v7, rfl, ho7, hb7⟩
          have HD7 := Aside0.mk (HD6.out.below hb7)
          have HR7 := Aside0.mk (HR6.out.below hb7)
          have HB7 := Aside0.mk (below_then HB6.out HB6.out.size hb7)
          have HO7 := Aside0.mk ho7
          clear ho7 hb7
          go_wp2_with fail
          refine (refread_tot w.heap.size D2 m (j + 1) AS cS _ (applyW S W) ([] : List (Int × List Int)) at_ w7 HR7.out HP6.out (by have := HLT.out; have := HL.out; omega)).mono ?_
          rintro x w8 ⟨v8, rfl, ho8, hb8⟩
          have HD8 := Aside0.mk (HD7.out.below hb8)
          have HR8 := Aside0.mk (HR7.out.below hb8)
          have HB8 := Aside0.mk (below_then HB7.out HB7.out.size hb8)
          have HO8 := Aside0.mk ho8
          have HO78 := Aside0.mk (Kd.R_below HO7.out hb8)
          clear ho8 hb8
          have hcvA := fun q => own_string (P := Try.prog) Try.underlying30 Try.underlying5 Try.underlying9 (Kd.own_of_R (Kd.R_drewN HO78.out q))
          have hcvB := fun q => own_string (P := Try.prog) Try.underlying30 Try.underlying5 Try.underlying9 (Kd.own_of_R (Kd.R_drewN HO8.out q))
          have qr1 : w8.cell? ⟨D2, 1, none⟩ = some (.slice none 0 0) := (blk_cell HR8.out.blk 1).trans rfl
          have qr0 : w8.cell? ⟨D2, 0, none⟩ = some (.slice AS m cS) := (blk_cell HR8.out.blk 0).trans rfl
          go_wp2_with fail
          go_quiet (first | (go_at_call 21; exact Calls.quiet_of_same (waiting_walk w.heap.size D gS _ _ (applyW S W) ([] : List (Int × List Int)) _ (HD8.out.below (pw_below_drewN (Below.refl _ _) _)))) | (go_at_call 22; exact Calls.quiet_of_same (len_tot w.heap.size D gS _ m (j + 1) _ (applyW S W) ([] : List (Int × List Int)) _ (HD8.out.below (pw_below_drewN (Below.refl _ _) _)) HP6.out)))
          clear hcvA hcvB qr1 qr0
          go_wp2_with fail

          go_roundg k1
          case measure => omega
          case rel =>
            refine ⟨j + 1, _, _, _, _, _, ?_, ⟨by have := HJ.out; omega⟩, ⟨HD8.out.below (pw_below_drewN (Below.refl _ _) _)⟩, ⟨HR8.out.below (pw_below_drewN (Below.refl _ _) _)⟩, HP6, ⟨pw_below_drewN HB8.out _⟩⟩
            exact congrArg (Value.int .i64) (widx (by have := HLT.out; have := HL.out; omega))
        · have ckc : (o.f0 == 1) = false := beq_eq_false_iff_ne.mpr ck
          clear ck
          have HBd := Aside0.mk (below_drew HB.out)
          have y3 := kfact HX3.out HB.out
          have z3 := kfact HX3.out HBd.out
          have y4 := kfact HX4.out HB.out
          have z4 := kfact HX4.out HBd.out
          have y5 := kfact HX5.out HB.out
          have z5 := kfact HX5.out HBd.out
          have HDd := Aside0.mk (HD.out.below (below_drew (Below.refl _ _)))
          have HRd := Aside0.mk (HR.out.below (below_drew (Below.refl _ _)))
          go_wp2_with fail
          go_still_tail 16, (by kernel_rfl)
          change wpList _ _ _ _ _ wr.drew
          go_wp2_with fail
          refine (crash_tot w.heap.size D gS cW m j A AK cK S W o.f3 o.f4 o.f5 _ HDd.out HP.out HJn.out (Kd.F_mono (Kd.F_below (Kd.C_F Kd.heap_bool HIK.out) HBd.out) (fun k hk => by have := HDd.out.base.2.1; omega))).mono ?_
          rintro x w5 ⟨rfl, hd5, ht5⟩
          have HD5 := Aside0.mk hd5
          have HR5 := Aside0.mk (HRd.out.touch HDd.out ht5)
          have HB5 := Aside0.mk (ht5.bel' HBd.out HDd.out (Nat.le_refl _))
          clear hd5 ht5 y3 z3 y4 z4 y5 z5 HBd HDd HRd
          have HBd := Aside0.mk (below_drew HB5.out)
          have y3 := kfact HX3.out HB5.out
          have z3 := kfact HX3.out HBd.out
          have y4 := kfact HX4.out HB5.out
          have z4 := kfact HX4.out HBd.out
          have y5 := kfact HX5.out HB5.out
          have z5 := kfact HX5.out HBd.out
          have HDd := Aside0.mk (HD5.out.below (below_drew (Below.refl _ _)))
          have HRd := Aside0.mk (HR5.out.below (below_drew (Below.refl _ _)))
          go_wp2_with fail
          go_still_tail 16, (by kernel_rfl)
          change wpList _ _ _ _ _ w5.drew
          go_wp2_with fail
          refine (refcrash_walk w.heap.size D2 m j (.slice AS m cS) vW S W AK cK o.f3 o.f4 o.f5 _ HRd.out HP.out HJn.out (Kd.F_mono (Kd.F_below (Kd.C_F Kd.heap_bool HIK.out) HBd.out) (fun k hk hi => by have := (HRd.out.inR hi).1; omega))).mono ?_
          rintro x w6 ⟨rfl, hr6, ht6⟩
          have HR6 := Aside0.mk hr6
          have HD6 := Aside0.mk (HDd.out.rtouch HRd.out ht6)
          have HB6 := Aside0.mk (ht6.bel HBd.out HRd.out (Nat.le_refl _))
          have HP6 := Aside0.mk (HP.out.crash o.f3 o.f4 (clampB_le o.f5))
          clear hr6 ht6 y3 z3 y4 z4 y5 z5 HBd HDd HRd

          have HLn := Aside0.mk (show ([] : List (Int × List Int)).length < 1099511627776 by have := HP6.out.few; have := HL.out; have := HLT.out; omega)
          go_wp2_with fail
          refine (read_walk w.heap.size D gS _ m (j + 1) _ (crashW o.f3 o.f4 (clampB o.f5) S W W.length) ([] : List (Int × List Int)) at_ w6 HD6.out HP6.out (by have := HLT.out; have := HL.out; omega)).mono ?_
          rintro x w7 ⟨v7, rfl, ho7, hb7⟩
          have HD7 := Aside0.mk (HD6.out.below hb7)
          have HR7 := Aside0.mk (HR6.out.below hb7)
          have HB7 := Aside0.mk (below_then HB6.out HB6.out.size hb7)
          have HO7 := Aside0.mk ho7
          clear ho7 hb7
          go_wp2_with fail
          refine (refread_tot w.heap.size D2 m (j + 1) AS cS _ (crashW o.f3 o.f4 (clampB o.f5) S W W.length) ([] : List (Int × List Int)) at_ w7 HR7.out HP6.out (by have := HLT.out; have := HL.out; omega)).mono ?_
          rintro x w8 ⟨v8, rfl, ho8, hb8⟩
          have HD8 := Aside0.mk (HD7.out.below hb8)
          have HR8 := Aside0.mk (HR7.out.below hb8)
          have HB8 := Aside0.mk (below_then HB7.out HB7.out.size hb8)
          have HO8 := Aside0.mk ho8
          have HO78 := Aside0.mk (Kd.R_below HO7.out hb8)
          clear ho8 hb8
          have hcvA := fun q => own_string (P := Try.prog) Try.underlying30 Try.underlying5 Try.underlying9 (Kd.own_of_R (Kd.R_drewN HO78.out q))
          have hcvB := fun q => own_string (P := Try.prog) Try.underlying30 Try.underlying5 Try.underlying9 (Kd.own_of_R (Kd.R_drewN HO8.out q))
          have qr1 : w8.cell? ⟨D2, 1, none⟩ = some (.slice none 0 0) := (blk_cell HR8.out.blk 1).trans rfl
          have qr0 : w8.cell? ⟨D2, 0, none⟩ = some (.slice AS m cS) := (blk_cell HR8.out.blk 0).trans rfl
          go_wp2_with fail
          go_quiet (first | (go_at_call 21; exact Calls.quiet_of_same (waiting_walk w.heap.size D gS _ _ (crashW o.f3 o.f4 (clampB o.f5) S W W.length) ([] : List (Int × List Int)) _ (HD8.out.below (pw_below_drewN (Below.refl _ _) _)))) | (go_at_call 22; exact Calls.quiet_of_same (len_tot w.heap.size D gS _ m (j + 1) _ (crashW o.f3 o.f4 (clampB o.f5) S W W.length) ([] : List (Int × List Int)) _ (HD8.out.below (pw_below_drewN (Below.refl _ _) _)) HP6.out)))
          clear hcvA hcvB qr1 qr0
          go_wp2_with fail

          go_roundg k1
          case measure => omega
          case rel =>
            refine ⟨j + 1, _, _, _, _, _, ?_, ⟨by have := HJ.out; omega⟩, ⟨HD8.out.below (pw_below_drewN (Below.refl _ _) _)⟩, ⟨HR8.out.below (pw_below_drewN (Below.refl _ _) _)⟩, HP6, ⟨pw_below_drewN HB8.out _⟩⟩
            exact congrArg (Value.int .i64) (widx (by have := HLT.out; have := HL.out; omega))
    · obtain rfl : l.length = j := by have := HJ.out; omega
      have p1 : decide ((l.length : Int) < (l.length : Int)) = false := decide_eq_false (by omega)
      clear hlt
      go_wp2
      go_ret
      exact ⟨rfl, HB.out⟩
def colloquylaw19_DiskDoes.f (a0 : Int) (l1 : List S33) (a2 : Int) : Option Bool := some true
theorem colloquylaw19_DiskDoes.calls (a0 : Int) (A1 : Option Addr) (c1 : Nat) (l1 : List S33) (a2 : Int) (r : Bool) (w : World) (hr1 : Kd.C k33 w A1 l1.length l1) (hc1 : l1.length ≤ c1) (h : colloquylaw19_DiskDoes.f a0 l1 a2 = some r) :
    Calls Try.prog 3 #[.int .i64 a0, .slice A1 l1.length c1, .int .i64 a2] w fun e w' => e = .returned (.bool r) ∧ Below w.heap.size w w' := by
  obtain rfl := Option.some.inj h
  obtain ⟨b, hb, hh⟩ := few_total l1
  cases b with
  | false => exact does_other a0 A1 c1 l1 a2 w hr1 hc1 hb
  | true => exact does_few a0 A1 c1 l1 a2 w hr1 hc1 hb (hh rfl).1
end Go.Proofs.Ytfmgealooebciaa.PAll
