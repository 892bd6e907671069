/- DiskTears over the disk in memory. -/
import Derived.Test.YtfmgealooebciaaDiskSmall
namespace Go.Proofs.Ytfmgealooebciaa.PAll
open Go.RowKit Go.Proofs.YtfmgealooebciaaW.PrintWords Go.Proofs.YtfmgealooebciaaW.PrintLast Go.Proofs.YtfmgealooebciaaW.PrintMore
set_option linter.unusedVariables false
set_option linter.unusedSimpArgs false
theorem str_app (a b : List Int) : (strOfNums a ++ strOfNums b).toList = (strOfNums (a ++ b)).toList := by
  rw [ByteArray.toList_eq, ByteArray.toList_eq, ByteArray.data_append, Array.toList_append, strOfNums_data, strOfNums_data, strOfNums_data, List.map_append]
theorem str_size (l : List Int) : (strOfNums l).size = l.length := by rw [← data_length, strOfNums_data, List.length_map]
set_option maxHeartbeats 2000000 in
set_option maxRecDepth 100000 in
theorem tears_other (A0 A1 A2 : Option Addr) (c0 c1 c2 n0 n1 n2 : Nat) (a3 a4 : Int) (w : World) (hl : ((n0 : Int) != 16) = true ∨ ((n0 : Int) != 16) = false ∧ (((n1 : Int) != 16) = true ∨ ((n1 : Int) != 16) = false ∧ decide ((n2 : Int) > 60) = true)) :
    Calls Try.prog 5 #[.slice A0 n0 c0, .slice A1 n1 c1, .slice A2 n2 c2, .int .i64 a3, .int .i64 a4] w fun x w' => x = .returned (.bool true) ∧ Below w.heap.size w w' := by
  have h60 : decide ((n2 : Int) > 60) = true → decide (60 < n2) = true := fun h => decide_eq_true (by have := of_decide_eq_true h; omega)
  rcases hl with hl | ⟨hl, hl1 | ⟨hl1, hl2⟩⟩
  all_goals
    (try (have hl3 := h60 hl2))
    (try (have hl4 := of_decide_eq_true hl3))
    clear h60
    go_enter Try.func5, Try.ntmps5
    go_wp2_with fail
    refine (awake_walk w).mono ?_
    rintro x w1 ⟨rfl, hb1⟩
    go_wp2_with fail
    refine (new_walk 1 1 1 w1 rfl rfl (by decide)).mono ?_
    rintro x w2 ⟨D, gS, rfl, hd2, hb2⟩
    have HB2 := Aside0.mk (below_then hb1 hb1.size hb2)
    clear hd2 hb1 hb2
    go_wp2
    go_ret
    exact ⟨rfl, HB2.out⟩
set_option maxHeartbeats 8000000 in
set_option maxRecDepth 100000 in
theorem tears_16 (A0 A1 A2 : Option Addr) (c0 c1 c2 : Nat) (x0 x1 x2 x3 x4 x5 x6 x7 x8 x9 x10 x11 x12 x13 x14 x15 y0 y1 y2 y3 y4 y5 y6 y7 y8 y9 y10 y11 y12 y13 y14 y15 : Int) (keep : List Bool) (a3 a4 : Int) (w : World) (hr0 : Kd.C (Kd.int .u8) w A0 16 [x0, x1, x2, x3, x4, x5, x6, x7, x8, x9, x10, x11, x12, x13, x14, x15]) (hc0 : 16 ≤ c0) (hr1 : Kd.C (Kd.int .u8) w A1 16 [y0, y1, y2, y3, y4, y5, y6, y7, y8, y9, y10, y11, y12, y13, y14, y15]) (hc1 : 16 ≤ c1) (hr2 : Kd.C Kd.bool w A2 keep.length keep) (hk : ¬ (60 < keep.length)) :
    Calls Try.prog 5 #[.slice A0 16 c0, .slice A1 16 c1, .slice A2 keep.length c2, .int .i64 a3, .int .i64 a4] w fun x w' => x = .returned (.bool true) ∧ Below w.heap.size w w' := by
  have HR0 := Aside0.mk hr0
  have HR1 := Aside0.mk hr1
  have HR2 := Aside0.mk hr2
  obtain ⟨ad0, rfl, _⟩ := hr0.2.2 (by decide)
  obtain ⟨ad1, rfl, _⟩ := hr1.2.2 (by decide)
  clear hr0 hr1 hr2
  have hk1 : decide ((keep.length : Int) > 60) = false := decide_eq_false (by omega)
  go_enter Try.func5, Try.ntmps5
  go_wp2_with fail
  refine (awake_walk w).mono ?_
  rintro x w1 ⟨rfl, hb1⟩
  go_wp2_with fail
  refine (new_walk 1 1 1 w1 rfl rfl (by decide)).mono ?_
  rintro x w2 ⟨D, gS, rfl, hd2, hb2⟩
  have HD2 := Aside0.mk hd2
  have HB2 := Aside0.mk (below_then hb1 hb1.size hb2)
  have HW1 := Aside0.mk hb1.size
  have HDD := Aside0.mk (show w.heap.size ≤ D ∧ w.heap.size ≤ gS from ⟨Nat.le_trans hb1.size hd2.2.1, Nat.le_trans hb1.size hd2.2.2.1⟩)
  clear hd2 hb1 hb2
  go_wp2_with fail
  refine (write_yes w1.heap.size D gS 0 none (List.replicate 1 zeroS) [] 0 x0 x1 x2 x3 x4 x5 x6 x7 x8 x9 x10 x11 x12 x13 x14 x15 ad0 c0 w2 HD2.out rfl rfl (by decide) hc0 (C_cells (Kd.C_below HR0.out HB2.out))).mono ?_
  rintro x w3 ⟨rfl, A3, cW3, hd3, ht3, _⟩
  have HB3 := Aside0.mk (ht3.bel HB2.out HB2.out.size HDD.out.1 HDD.out.2 (fun a ha => by cases ha))
  have HD3 := Aside0.mk hd3
  clear hd3 ht3 HD2 HB2
  go_wp2_with fail
  refine (sync_walk w1.heap.size D gS cW3 A3 (List.replicate 1 zeroS) [(0, [x0, x1, x2, x3, x4, x5, x6, x7, x8, x9, x10, x11, x12, x13, x14, x15])] _ HD3.out (by simp) (by simp)).mono ?_
  rintro x w4 ⟨rfl, hd4, ht4⟩
  have HD4 := Aside0.mk (show DiskAt w1.heap.size D gS A3 cW3 [[x0, x1, x2, x3, x4, x5, x6, x7, x8, x9, x10, x11, x12, x13, x14, x15]] [] w4 from hd4)
  have HB4 := Aside0.mk (ht4.bel HB3.out HB3.out.size HDD.out.1 HDD.out.2 (fun a ha => Nat.le_trans HW1.out (HD3.out.base.2.2.1 a ha)))
  clear hd4 ht4 HD3 HB3
  go_wp2_with fail
  refine (write_yes w1.heap.size D gS cW3 A3 [[x0, x1, x2, x3, x4, x5, x6, x7, x8, x9, x10, x11, x12, x13, x14, x15]] [] 0 y0 y1 y2 y3 y4 y5 y6 y7 y8 y9 y10 y11 y12 y13 y14 y15 ad1 c1 w4 HD4.out rfl rfl (by decide) hc1 (C_cells (Kd.C_below HR1.out HB4.out))).mono ?_
  rintro x w5 ⟨rfl, A5, cW5, hd5, ht5, _⟩
  have HD5 := Aside0.mk (show DiskAt w1.heap.size D gS A5 cW5 [[x0, x1, x2, x3, x4, x5, x6, x7, x8, x9, x10, x11, x12, x13, x14, x15]] [(0, [y0, y1, y2, y3, y4, y5, y6, y7, y8, y9, y10, y11, y12, y13, y14, y15])] w5 from hd5)
  have HB5 := Aside0.mk (ht5.bel HB4.out HB4.out.size HDD.out.1 HDD.out.2 (fun a ha => Nat.le_trans HW1.out (HD4.out.base.2.2.1 a ha)))
  clear hd5 ht5 HD4 HB4
  obtain ⟨m1, hm1⟩ : ∃ m1 : Int, (if a4 < 0 then (0 : Int) else a4) = m1 := ⟨_, rfl⟩
  have hm10 : 0 ≤ m1 := by rw [← hm1]; split <;> omega
  obtain ⟨nB, hm2, hnB⟩ : ∃ nB : Nat, (if 16 < m1 then (16 : Int) else m1) = (nB : Int) ∧ nB ≤ 16 := by
    by_cases c : 16 < m1
    · exact ⟨16, by rw [if_pos c]; rfl, Nat.le_refl _⟩
    · exact ⟨m1.toNat, by rw [if_neg c]; omega, by omega⟩
  have HM1 := Aside0.mk hm1
  have HM2 := Aside0.mk hm2
  have HNB := Aside0.mk hnB
  clear hm1 hm2 hnB hm10
  go_wp2_with fail
  refine (crash_walk w1.heap.size D gS cW5 nB A5 A2 c2 [[x0, x1, x2, x3, x4, x5, x6, x7, x8, x9, x10, x11, x12, x13, x14, x15]] [(0, [y0, y1, y2, y3, y4, y5, y6, y7, y8, y9, y10, y11, y12, y13, y14, y15])] keep a3 a4 m1 w5 HD5.out (by simp) (by simp) (Kd.F_mono (Kd.F_below (Kd.C_F Kd.heap_bool HR2.out) HB5.out) (fun k hk => Nat.lt_of_lt_of_le hk HW1.out)) HM1.out HM2.out HNB.out).mono ?_
  rintro x w6 ⟨rfl, hd6, ht6⟩
  obtain ⟨res, hres⟩ : ∃ res, res = (if keep.getD 0 false = true then [y0, y1, y2, y3, y4, y5, y6, y7, y8, y9, y10, y11, y12, y13, y14, y15] else if (0 : Int) = a3 then [y0, y1, y2, y3, y4, y5, y6, y7, y8, y9, y10, y11, y12, y13, y14, y15].take nB ++ [x0, x1, x2, x3, x4, x5, x6, x7, x8, x9, x10, x11, x12, x13, x14, x15].drop nB else [x0, x1, x2, x3, x4, x5, x6, x7, x8, x9, x10, x11, x12, x13, x14, x15]) := ⟨_, rfl⟩
  have HD6 := Aside0.mk (show DiskAt w1.heap.size D gS A5 cW5 [res] [] w6 by
    have e : crashW keep a3 nB [[x0, x1, x2, x3, x4, x5, x6, x7, x8, x9, x10, x11, x12, x13, x14, x15]] [(0, [y0, y1, y2, y3, y4, y5, y6, y7, y8, y9, y10, y11, y12, y13, y14, y15])] 1 = [res] := by
      rw [hres]
      show crashS keep a3 nB [[x0, x1, x2, x3, x4, x5, x6, x7, x8, x9, x10, x11, x12, x13, x14, x15]] 0 (0, [y0, y1, y2, y3, y4, y5, y6, y7, y8, y9, y10, y11, y12, y13, y14, y15]) = _
      unfold crashS
      split
      · rfl
      · split
        · rename_i h; rw [if_pos (show (0 : Int) = a3 from h)]; rfl
        · rename_i h; rw [if_neg (show ¬ (0 : Int) = a3 from h)]
    have h6 : DiskAt w1.heap.size D gS A5 cW5 (crashW keep a3 nB [[x0, x1, x2, x3, x4, x5, x6, x7, x8, x9, x10, x11, x12, x13, x14, x15]] [(0, [y0, y1, y2, y3, y4, y5, y6, y7, y8, y9, y10, y11, y12, y13, y14, y15])] 1) [] w6 := hd6
    rwa [e] at h6)
  have HB6 := Aside0.mk (ht6.bel HB5.out HB5.out.size HDD.out.1 HDD.out.2 (fun a ha => Nat.le_trans HW1.out (HD5.out.base.2.2.1 a ha)))
  have hresl : res.length = 16 := by
    rw [hres]
    split
    · rfl
    · split
      · rw [List.length_append, List.length_take, List.length_drop]; have := HNB.out; simp; omega
      · rfl
  have HRS := Aside0.mk hres
  have HRL := Aside0.mk hresl
  clear hd6 ht6 HD5 HB5 hres hresl
  go_wp2_with fail
  refine (read_yes w1.heap.size D gS cW5 A5 [res] [] 0 res w6 HD6.out rfl rfl rfl HRL.out (by simp) (by simp)).mono ?_
  rintro x w7 ⟨v7, rfl, ho7, hb7⟩
  have ho7' : Kd.R (Kd.int .u8) 5 w7 _ (fun _ => True) v7 res := ho7
  obtain ⟨g7, cap7, cur7, e7, hg7, hh7, hs7⟩ := own5 ho7' (by rw [HRL.out]; decide)
  rw [HRL.out] at e7
  subst e7
  have HO7 := Aside0.mk ho7'
  have HB7 := Aside0.mk (below_then HB6.out HB6.out.size hb7)
  clear ho7 ho7' hb7 hg7 hh7 hs7 HD6 HB6
  have HM : ∃ m : Nat, m ≤ 16 ∧ res = [y0, y1, y2, y3, y4, y5, y6, y7, y8, y9, y10, y11, y12, y13, y14, y15].take m ++ [x0, x1, x2, x3, x4, x5, x6, x7, x8, x9, x10, x11, x12, x13, x14, x15].drop m ∧ ((0 < keep.length ∧ keep.getD 0 false = true ∧ m = 16) ∨ ((¬ 0 < keep.length ∨ (0 < keep.length ∧ keep.getD 0 false = false)) ∧ ((a3 = 0 ∧ (a4 < 0 ∧ m = 0 ∨ ¬ a4 < 0 ∧ (a4 > 16 ∧ m = 16 ∨ ¬ a4 > 16 ∧ a4 = (m : Int)))) ∨ (¬ a3 = 0 ∧ m = 0)))) := by
    have h1 := HRS.out
    have h2 := HM1.out
    have h3 := HM2.out
    by_cases ck : keep.getD 0 false = true
    · rw [if_pos ck] at h1
      refine ⟨16, Nat.le_refl _, by rw [h1]; rfl, .inl ⟨?_, ck, rfl⟩⟩
      cases keep with
      | nil => simp at ck
      | cons => simp
    · rw [if_neg ck] at h1
      have hk' : ¬ 0 < keep.length ∨ (0 < keep.length ∧ keep.getD 0 false = false) := by
        by_cases c : 0 < keep.length
        · exact .inr ⟨c, Bool.eq_false_iff.mpr ck⟩
        · exact .inl c
      by_cases ct : (0 : Int) = a3
      · rw [if_pos ct] at h1
        refine ⟨nB, HNB.out, h1, .inr ⟨hk', .inl ⟨ct.symm, ?_⟩⟩⟩
        by_cases c : a4 < 0
        · rw [if_pos c] at h2
          rw [if_neg (by omega)] at h3
          exact .inl ⟨c, by omega⟩
        · rw [if_neg c] at h2
          by_cases c2 : a4 > 16
          · rw [if_pos (by omega)] at h3
            exact .inr ⟨c, .inl ⟨c2, by omega⟩⟩
          · rw [if_neg (by omega)] at h3
            exact .inr ⟨c, .inr ⟨c2, by omega⟩⟩
      · rw [if_neg ct] at h1
        exact ⟨0, Nat.zero_le _, by rw [h1]; rfl, .inr ⟨hk', .inr ⟨fun e => ct e.symm, rfl⟩⟩⟩
  obtain ⟨m, hm16, hrm, hcase⟩ := HM
  obtain ⟨i0, hi0, _, hsz, _⟩ := info_parts info5
  have m0 : (0 : Int) ≤ (m : Int) := by omega
  have m1' : (m : Int) ≤ ((16 : Nat) : Int) := by omega
  have hcutT := cut_to (P := Try.prog) 30 5 .i64 Try.underlying30 hi0 (some ad1) 16 c1 (m : Int) m0 m1' hc1
  have hcutF := cut_from (P := Try.prog) 30 5 .i64 Try.underlying30 hi0 1 hsz (some ad0) 16 c0 (m : Int) m0 m1'
  rw [Int.toNat_natCast] at hcutT hcutF
  have hT := Kd.C_take (xs := [y0, y1, y2, y3, y4, y5, y6, y7, y8, y9, y10, y11, y12, y13, y14, y15]) (m := m) (Kd.C_below HR1.out HB7.out) hm16
  have hF := Kd.C_drop (xs := [x0, x1, x2, x3, x4, x5, x6, x7, x8, x9, x10, x11, x12, x13, x14, x15]) (m := m) (c := c0) (Kd.C_below HR0.out HB7.out) hm16 hc0
  have lT : ([y0, y1, y2, y3, y4, y5, y6, y7, y8, y9, y10, y11, y12, y13, y14, y15].take m).length = m := by rw [List.length_take]; exact Nat.min_eq_left hm16
  have lF : ([x0, x1, x2, x3, x4, x5, x6, x7, x8, x9, x10, x11, x12, x13, x14, x15].drop m).length = 16 - m := List.length_drop
  obtain ⟨A9, hA9⟩ : ∃ A1, A1 = (if c0 = m then (some ad0 : Option Addr) else (some ad0 : Option Addr).map (·.add (m * 1))) := ⟨_, rfl⟩
  obtain ⟨c9, hc9⟩ : ∃ c, c = c0 - m := ⟨_, rfl⟩
  rw [← hA9, ← hc9] at hcutF
  obtain ⟨YT, hYT⟩ : ∃ l, l = [y0, y1, y2, y3, y4, y5, y6, y7, y8, y9, y10, y11, y12, y13, y14, y15].take m := ⟨_, rfl⟩
  obtain ⟨XD, hXD⟩ : ∃ l, l = [x0, x1, x2, x3, x4, x5, x6, x7, x8, x9, x10, x11, x12, x13, x14, x15].drop m := ⟨_, rfl⟩
  rw [lT, ← hYT] at hT
  replace hF : Kd.C (Kd.int .u8) w7 A9 (16 - m) XD := by rw [hA9, hXD, ← lF]; exact hF
  rw [← hYT, ← hXD] at hrm
  have hcvT := Kd.C_string (P := Try.prog) Try.underlying30 Try.underlying5 Try.underlying9 (c := c1) (Kd.C_below hT (below_drew (Below.refl _ _)))
  have hcvF := Kd.C_string (P := Try.prog) Try.underlying30 Try.underlying5 Try.underlying9 (c := c9) (Kd.C_below hF (below_drew (Below.refl _ _)))
  have hcvR := own_string (P := Try.prog) Try.underlying30 Try.underlying5 Try.underlying9 (Kd.own_of_R (Kd.R_drew HO7.out))
  have hkC := Aside0.mk (Kd.C_below HR2.out HB7.out)
  have heq : ((strOfNums res).toList == (strOfNums YT ++ strOfNums XD).toList) = true := by rw [str_app, hrm]; exact beq_self_eq_true _
  have hbig : ¬ 9223372036854775807 < (strOfNums YT).size + (strOfNums XD).size := by rw [str_size, str_size, hYT, hXD, lT, lF]; omega
  have HMM := Aside0.mk hcase
  clear hT hF lT lF hA9 hc9 hYT hXD hrm hcase hi0 hsz
  clear hk1
  have tail : True := trivial
  rcases HMM.out with ⟨k0, kb, me⟩ | ⟨hk', ⟨ct, ⟨c, me⟩ | ⟨c, ⟨c2, me⟩ | ⟨c2, me⟩⟩⟩ | ⟨ct, me⟩⟩
  · obtain ⟨adk, eA, hx⟩ := Kd.at_bool hkC.out 0 (Int.le_refl 0) (by omega)
    subst eA
    have hx' : w7.cell? adk = some (.bool true) := by
      have e : adk.add (0 : Int).toNat = adk := by unfold Addr.add; simp
      have e2 : rdOf false keep 0 = true := kb
      rwa [e, e2] at hx
    have k1 := eq_true (show (0 : Int) < (keep.length : Int) by omega)
    have k2 : decide ((keep.length : Int) > 0) = true := decide_eq_true (by omega)
    rw [show ((m : Nat) : Int) = 16 by omega] at hcutT hcutF
    clear hx kb me
    go_wp2_with fail
    go_still (by kernel_rfl)
    go_wp2
    go_ret
    exact ⟨rfl, below_drew HB7.out⟩
  · have t1 : (a3 == 0) = true := beq_iff_eq.mpr ct
    have b1 : decide (a4 < 0) = true := decide_eq_true c
    rw [show ((m : Nat) : Int) = 0 by omega] at hcutT hcutF
    clear ct me
    rcases hk' with k0 | ⟨k0, kb⟩
    · have k2 : decide ((keep.length : Int) > 0) = false := decide_eq_false (by omega)
      go_wp2_with fail
      go_still (by kernel_rfl)
      go_wp2
      go_ret
      exact ⟨rfl, below_drew HB7.out⟩
    · obtain ⟨adk, eA, hx⟩ := Kd.at_bool hkC.out 0 (Int.le_refl 0) (by omega)
      subst eA
      have hx' : w7.cell? adk = some (.bool false) := by
        have e : adk.add (0 : Int).toNat = adk := by unfold Addr.add; simp
        have e2 : rdOf false keep 0 = false := kb
        rwa [e, e2] at hx
      have k1 := eq_true (show (0 : Int) < (keep.length : Int) by omega)
      have k2 : decide ((keep.length : Int) > 0) = true := decide_eq_true (by omega)
      clear hx kb
      go_wp2_with fail
      go_still (by kernel_rfl)
      go_wp2
      go_ret
      exact ⟨rfl, below_drew HB7.out⟩
  · have t1 : (a3 == 0) = true := beq_iff_eq.mpr ct
    have b1 : decide (a4 < 0) = false := decide_eq_false c
    have b2 : decide (a4 > 16) = true := decide_eq_true c2
    rw [show ((m : Nat) : Int) = 16 by omega] at hcutT hcutF
    clear ct me
    rcases hk' with k0 | ⟨k0, kb⟩
    · have k2 : decide ((keep.length : Int) > 0) = false := decide_eq_false (by omega)
      go_wp2_with fail
      go_still (by kernel_rfl)
      go_wp2
      go_ret
      exact ⟨rfl, below_drew HB7.out⟩
    · obtain ⟨adk, eA, hx⟩ := Kd.at_bool hkC.out 0 (Int.le_refl 0) (by omega)
      subst eA
      have hx' : w7.cell? adk = some (.bool false) := by
        have e : adk.add (0 : Int).toNat = adk := by unfold Addr.add; simp
        have e2 : rdOf false keep 0 = false := kb
        rwa [e, e2] at hx
      have k1 := eq_true (show (0 : Int) < (keep.length : Int) by omega)
      have k2 : decide ((keep.length : Int) > 0) = true := decide_eq_true (by omega)
      clear hx kb
      go_wp2_with fail
      go_still (by kernel_rfl)
      go_wp2
      go_ret
      exact ⟨rfl, below_drew HB7.out⟩
  · have t1 : (a3 == 0) = true := beq_iff_eq.mpr ct
    have b1 : decide (a4 < 0) = false := decide_eq_false c
    have b2 : decide (a4 > 16) = false := decide_eq_false c2
    rw [← me] at hcutT hcutF
    clear ct me
    rcases hk' with k0 | ⟨k0, kb⟩
    · have k2 : decide ((keep.length : Int) > 0) = false := decide_eq_false (by omega)
      go_wp2_with fail
      go_still (by kernel_rfl)
      go_wp2
      go_ret
      exact ⟨rfl, below_drew HB7.out⟩
    · obtain ⟨adk, eA, hx⟩ := Kd.at_bool hkC.out 0 (Int.le_refl 0) (by omega)
      subst eA
      have hx' : w7.cell? adk = some (.bool false) := by
        have e : adk.add (0 : Int).toNat = adk := by unfold Addr.add; simp
        have e2 : rdOf false keep 0 = false := kb
        rwa [e, e2] at hx
      have k1 := eq_true (show (0 : Int) < (keep.length : Int) by omega)
      have k2 : decide ((keep.length : Int) > 0) = true := decide_eq_true (by omega)
      clear hx kb
      go_wp2_with fail
      go_still (by kernel_rfl)
      go_wp2
      go_ret
      exact ⟨rfl, below_drew HB7.out⟩
  · have t1 : (a3 == 0) = false := beq_eq_false_iff_ne.mpr ct
    rw [show ((m : Nat) : Int) = 0 by omega] at hcutT hcutF
    clear ct me
    rcases hk' with k0 | ⟨k0, kb⟩
    · have k2 : decide ((keep.length : Int) > 0) = false := decide_eq_false (by omega)
      go_wp2_with fail
      go_still (by kernel_rfl)
      go_wp2
      go_ret
      exact ⟨rfl, below_drew HB7.out⟩
    · obtain ⟨adk, eA, hx⟩ := Kd.at_bool hkC.out 0 (Int.le_refl 0) (by omega)
      subst eA
      have hx' : w7.cell? adk = some (.bool false) := by
        have e : adk.add (0 : Int).toNat = adk := by unfold Addr.add; simp
        have e2 : rdOf false keep 0 = false := kb
        rwa [e, e2] at hx
      have k1 := eq_true (show (0 : Int) < (keep.length : Int) by omega)
      have k2 : decide ((keep.length : Int) > 0) = true := decide_eq_true (by omega)
      clear hx kb
      go_wp2_with fail
      go_still (by kernel_rfl)
      go_wp2
      go_ret
      exact ⟨rfl, below_drew HB7.out⟩
def colloquylaw19_DiskTears.f (l0 : List Int) (l1 : List Int) (l2 : List Bool) (a3 a4 : Int) : Option Bool := some true
theorem colloquylaw19_DiskTears.calls (A0 : Option Addr) (c0 : Nat) (l0 : List Int) (A1 : Option Addr) (c1 : Nat) (l1 : List Int) (A2 : Option Addr) (c2 : Nat) (l2 : List Bool) (a3 : Int) (a4 : Int) (r : Bool) (w : World) (hr0 : Kd.C (Kd.int .u8) w A0 l0.length l0) (hc0 : l0.length ≤ c0) (hr1 : Kd.C (Kd.int .u8) w A1 l1.length l1) (hc1 : l1.length ≤ c1) (hr2 : Kd.C Kd.bool w A2 l2.length l2) (hc2 : l2.length ≤ c2) (h : colloquylaw19_DiskTears.f l0 l1 l2 a3 a4 = some r) :
    Calls Try.prog 5 #[.slice A0 l0.length c0, .slice A1 l1.length c1, .slice A2 l2.length c2, .int .i64 a3, .int .i64 a4] w fun e w' => e = .returned (.bool r) ∧ Below w.heap.size w w' := by
  obtain rfl := Option.some.inj h
  by_cases k0 : l0.length = 16
  · by_cases k1 : l1.length = 16
    · by_cases k2 : 60 < l2.length
      · exact tears_other A0 A1 A2 c0 c1 c2 l0.length l1.length l2.length a3 a4 w (.inr ⟨bne_eq_false_iff_eq.mpr (by omega), .inr ⟨bne_eq_false_iff_eq.mpr (by omega), decide_eq_true (by omega)⟩⟩)
      · obtain ⟨x0, x1, x2, x3, x4, x5, x6, x7, x8, x9, x10, x11, x12, x13, x14, x15, rfl⟩ := len16 k0
        obtain ⟨y0, y1, y2, y3, y4, y5, y6, y7, y8, y9, y10, y11, y12, y13, y14, y15, rfl⟩ := len16 k1
        exact tears_16 A0 A1 A2 c0 c1 c2 x0 x1 x2 x3 x4 x5 x6 x7 x8 x9 x10 x11 x12 x13 x14 x15 y0 y1 y2 y3 y4 y5 y6 y7 y8 y9 y10 y11 y12 y13 y14 y15 l2 a3 a4 w hr0 hc0 hr1 hc1 hr2 k2
    · exact tears_other A0 A1 A2 c0 c1 c2 l0.length l1.length l2.length a3 a4 w (.inr ⟨bne_eq_false_iff_eq.mpr (by omega), .inl (bne_iff_ne.mpr (by omega))⟩)
  · exact tears_other A0 A1 A2 c0 c1 c2 l0.length l1.length l2.length a3 a4 w (.inl (bne_iff_ne.mpr (by omega)))
end Go.Proofs.Ytfmgealooebciaa.PAll
