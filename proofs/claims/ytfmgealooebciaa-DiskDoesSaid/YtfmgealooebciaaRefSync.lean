/- The reference's disk: Sync, Crash. Printed by wip/tools/genrefsync.py. -/
import Derived.Test.YtfmgealooebciaaRefRead
namespace Go.Proofs.Ytfmgealooebciaa.PAll
open Go.RowKit Go.Proofs.YtfmgealooebciaaW.PrintWords Go.Proofs.YtfmgealooebciaaW.PrintLast Go.Proofs.YtfmgealooebciaaW.PrintMore
set_option linter.unusedVariables false
set_option linter.unusedSimpArgs false
theorem put16 {b s : List Int} (hb : b.length = 16) (hs : s.length = 16) : b.take 16 ++ s.drop 16 = b := by
  rw [List.take_of_length_le (by omega), List.drop_of_length_le (by omega), List.append_nil]
/-- The disk, what waits let go. -/
theorem RefAt.forget {base D : Nat} {vS vW : Value} {S : List (List Int)} {W : List (Int × List Int)} {w : World} (h : RefAt base D vS vW S W w) : RefAt base D vS (.slice none 0 0) S [] (w.setCell ⟨D, 1, none⟩ (.slice none 0 0)) :=
  ⟨blk_put h.blk 1 _ rfl, h.le, Kd.R_set h.rs h.blk (by decide) 1 _, Kd.R_nil _ _ _ _ _⟩
set_option maxHeartbeats 2000000 in
set_option maxRecDepth 100000 in
theorem refsync_walk (base D m q : Nat) (vS vW : Value) (S : List (List Int)) (W : List (Int × List Int)) (w : World) (h : RefAt base D vS vW S W w) (hp : Parts m q S W) (hq : q < 1099511627776) :
    Calls Try.prog 16 #[.pointer (some ⟨D, 0, none⟩)] w fun x w' => x = .returned (.tuple #[]) ∧ RefAt base D vS (.slice none 0 0) (applyW S W) [] w' ∧ RTouch D vS vW w w' := by
  have HN := Aside0.mk (Nat.lt_of_le_of_lt hp.few hq)
  obtain ⟨AW, cW, eW⟩ := rw_slice h
  subst eW
  have H := Aside0.mk h
  have HP := Aside0.mk hp
  clear h hp hq
  go_enter Try.func16, Try.ntmps16
  go_wp2_with fail
  go_loopg [2] W.length (fun kq v2 w' => ∃ j : Nat, v2 = .int .i64 (j : Int) ∧ Aside0 (j + kq = W.length) ∧ Aside0 (RefAt base D vS (.slice AW W.length cW) (applyW S (W.take j)) W w') ∧ Aside0 (RTouch D vS (.slice AW W.length cW) w w'))
  case atStart => exact ⟨0, rfl, ⟨by omega⟩, H, ⟨RTouch.refl _ _ _ _⟩⟩
  case round =>
    obtain ⟨j, rfl, HJ, HR, HT⟩ := hrel
    have q1 : wr.cell? ⟨D, 1, none⟩ = some (.slice AW W.length cW) := (blk_cell HR.out.blk 1).trans rfl
    by_cases hlt : j < W.length
    · obtain ⟨p, hp⟩ : ∃ p, W[j]? = some p := ⟨_, List.getElem?_eq_getElem hlt⟩
      obtain ⟨gW, cW', eW, hCW⟩ := rw_block HR.out (by omega)
      cases eW
      obtain ⟨Ap, cp, hy0, hy1, hlp, hCp⟩ := at_kw hCW j p hp
      have hpv := HP.out.val p (List.mem_of_getElem? hp)
      rw [hpv.2.2] at hy1 hlp hCp
      have HCp := Aside0.mk hCp
      have HLp := Aside0.mk hlp
      have HPV := Aside0.mk hpv
      have HQ := Aside0.mk hp
      have HLT := Aside0.mk hlt
      have HPj := Aside0.mk (show Parts m (q + j) (applyW S (W.take j)) [] from ⟨(applyW_len _ S).trans HP.out.len, applyW_16 _ S (fun x hx => (HP.out.val x (List.mem_of_mem_take hx)).2.2) HP.out.s16, by simp, by simp⟩)
      have r1 : decide ((j : Int) < (W.length : Int)) = true := decide_eq_true (by omega)
      have r2 := eq_true (show 0 ≤ (j : Int) by omega)
      have r3 := eq_true (show (j : Int) < (W.length : Int) by omega)
      obtain ⟨k1, rfl⟩ : ∃ k1, gk = k1 + 1 := ⟨gk - 1, by have := HJ.out; omega⟩
      clear hCW hp hlt hlp hCp hpv
      go_wp2_with fail
      have hiS : p.1 < ((applyW S (W.take j)).length : Int) := by rw [applyW_len]; exact HPV.out.2.1
      have hs16 : ((applyW S (W.take j)).getD p.1.toNat []).length = 16 := by
        have hlt' : p.1.toNat < (applyW S (W.take j)).length := by have := HPV.out.1; omega
        rw [List.getD_eq_getElem?_getD, List.getElem?_eq_getElem hlt', Option.getD_some]
        exact HPj.out.s16 _ (List.getElem_mem hlt')
      refine (refput_walk base D vS _ (applyW S (W.take j)) W p.1 p.2 Ap cp 16 wr HR.out HCp.out HLp.out HPV.out.1 hiS hs16 (Nat.le_refl _)).mono ?_
      rintro x w1 ⟨rfl, hr1, ht1⟩
      rw [put16 HPV.out.2.2 hs16] at hr1
      have HR1 := Aside0.mk hr1
      have HT1 := Aside0.mk (HT.out.trans ht1 (fun k hk => .inl hk))
      clear hr1 ht1 hiS hs16 q1 hy0 hy1
      go_wp2
      go_roundg k1
      case measure => omega
      case rel =>
        refine ⟨j + 1, ?_, ⟨by have := HJ.out; omega⟩, ⟨?_⟩, HT1⟩
        · exact congrArg (Value.int .i64) (widx (by have := HLT.out; have := HN.out; omega))
        · rw [applyW_step HQ.out]
          exact HR1.out
    · obtain rfl : W.length = j := by have := HJ.out; omega
      have r0 : decide (W.length < W.length) = false := decide_eq_false (by omega)
      have f1 := blk_frozen HR.out.blk 1
      rw [List.take_length] at HR
      clear hlt
      go_wp2
      go_end0
      exact ⟨rfl, HR.out.forget, HT.out.cellD 1 _⟩
set_option maxHeartbeats 4000000 in
set_option maxRecDepth 100000 in
theorem refcrash_n (base D m q n : Nat) (vS vW : Value) (S : List (List Int)) (W : List (Int × List Int)) (Ak : Option Addr) (ck : Nat) (keep : List Bool) (torn bytes : Int) (w : World) (h : RefAt base D vS vW S W w) (hp : Parts m q S W) (hq : q < 1099511627776) (hn16 : n ≤ 16)
    (hk : Kd.F Kd.bool w (fun k => ¬ InR D vS vW k) Ak keep.length keep) (hb : (decide (bytes < 0) = true ∧ n = 0) ∨ (decide (bytes < 0) = false ∧ decide (bytes > 16) = true ∧ n = 16) ∨ (decide (bytes < 0) = false ∧ decide (bytes > 16) = false ∧ bytes = (n : Int))) :
    Calls Try.prog 18 #[.pointer (some ⟨D, 0, none⟩), .slice Ak keep.length ck, .int .i64 torn, .int .i64 bytes] w fun x w' => x = .returned (.tuple #[]) ∧ RefAt base D vS (.slice none 0 0) (crashW keep torn n S W W.length) [] w' ∧ RTouch D vS vW w w' := by
  have HN := Aside0.mk (Nat.lt_of_le_of_lt hp.few hq)
  obtain ⟨AW, cW, eW⟩ := rw_slice h
  subst eW
  have H := Aside0.mk h
  have HP := Aside0.mk hp
  have HK := Aside0.mk hk
  have HN16 := Aside0.mk hn16
  clear h hp hq hk
  rcases hb with ⟨hb, rfl⟩ | ⟨hb, hb2, rfl⟩ | ⟨hb, hb2, rfl⟩
  · go_enter Try.func18, Try.ntmps18
    go_wp2_with fail
    go_loopg [9] W.length (fun kq v9 w' => ∃ j : Nat, v9 = .int .i64 (j : Int) ∧ Aside0 (j + kq = W.length) ∧ Aside0 (RefAt base D vS (.slice AW W.length cW) (crashW keep torn 0 S W j) W w') ∧ Aside0 (RTouch D vS (.slice AW W.length cW) w w'))
    case atStart => exact ⟨0, rfl, ⟨by omega⟩, H, ⟨RTouch.refl _ _ _ _⟩⟩
    case round =>
      obtain ⟨j, rfl, HJ, HR, HT⟩ := hrel
      have q1 : wr.cell? ⟨D, 1, none⟩ = some (.slice AW W.length cW) := (blk_cell HR.out.blk 1).trans rfl
      have HKw := Aside0.mk (Kd.F_step HK.out (fun k hk1 hk2 => HT.out.block k hk2 hk1))
      by_cases hlt : j < W.length
      · obtain ⟨p, hp⟩ : ∃ p, W[j]? = some p := ⟨_, List.getElem?_eq_getElem hlt⟩
        obtain ⟨gW, cW', eW, hCW⟩ := rw_block HR.out (by omega)
        cases eW
        obtain ⟨Ap, cp, hy0, hy1, hlp, hCp⟩ := at_kw hCW j p hp
        have hpv := HP.out.val p (List.mem_of_getElem? hp)
        rw [hpv.2.2] at hy1 hlp hCp
        have HCp := Aside0.mk hCp
        have HLp := Aside0.mk hlp
        have HPV := Aside0.mk hpv
        have HQ := Aside0.mk hp
        have HLT := Aside0.mk hlt
        have HiS := Aside0.mk (show p.1 < ((crashW keep torn 0 S W j).length : Int) by rw [crashW_len]; exact HPV.out.2.1)
        have Hs16 := Aside0.mk (show ((crashW keep torn 0 S W j).getD p.1.toNat []).length = 16 by
          have hlt' : p.1.toNat < (crashW keep torn 0 S W j).length := by have := HPV.out.1; have := HiS.out; omega
          rw [List.getD_eq_getElem?_getD, List.getElem?_eq_getElem hlt', Option.getD_some]
          exact crashW_16 HN16.out HP.out.s16 (fun x hx => HP.out.val x hx) j _ (List.getElem_mem hlt'))
        have r1 : decide ((j : Int) < (W.length : Int)) = true := decide_eq_true (by omega)
        have r2 := eq_true (show 0 ≤ (j : Int) by omega)
        have r3 := eq_true (show (j : Int) < (W.length : Int) by omega)
        obtain ⟨k1, rfl⟩ : ∃ k1, gk = k1 + 1 := ⟨gk - 1, by have := HJ.out; omega⟩
        clear hCW hp hlt hlp hCp hpv
        by_cases ckl : j < keep.length
        · obtain ⟨adk, eAk, hxk⟩ := Kd.at_bool (Kd.F_now HKw.out) (j : Int) (by omega) (by omega)
          subst eAk
          rw [Int.toNat_natCast] at hxk
          have e1 : rdOf false keep (j : Int) = keep.getD j false := by unfold rdOf; rw [Int.toNat_natCast]
          have k1' : decide ((j : Int) < (keep.length : Int)) = true := decide_eq_true (by omega)
          have k2' := eq_true (show (j : Int) < (keep.length : Int) by omega)
          rw [e1] at hxk
          clear ckl e1
          by_cases ckb : keep.getD j false = true
          · have HKB := Aside0.mk ckb
            rw [ckb] at hxk
            clear ckb
            go_wp2_with fail
            refine (refput_walk base D vS _ (crashW keep torn 0 S W j) W p.1 p.2 Ap cp 16 wr HR.out HCp.out HLp.out HPV.out.1 HiS.out Hs16.out (Nat.le_refl _)).mono ?_
            rintro x w1 ⟨rfl, hr1, ht1⟩
            rw [put16 HPV.out.2.2 Hs16.out] at hr1
            have HR1 := Aside0.mk hr1
            have HT1 := Aside0.mk (HT.out.trans ht1 (fun k hk => .inl hk))
            clear hr1 ht1 q1 hy0 hy1
            go_wp2
            go_roundg k1
            case measure => omega
            case rel =>
              refine ⟨j + 1, ?_, ⟨by have := HJ.out; omega⟩, ⟨?_⟩, HT1⟩
              · exact congrArg (Value.int .i64) (widx (by have := HLT.out; have := HN.out; omega))
              · rw [crashW_step HQ.out, crashS, if_pos HKB.out]
                exact HR1.out
          · have HKB := Aside0.mk ckb
            rw [Bool.eq_false_iff.mpr ckb] at hxk
            clear ckb
            by_cases ct : (j : Int) = torn
            · have HTB := Aside0.mk ct
              have ctb : ((j : Int) == torn) = true := beq_iff_eq.mpr ct
              clear ct
              go_wp2_with fail
              refine (refput_walk base D vS _ (crashW keep torn 0 S W j) W p.1 p.2 Ap cp 0 wr HR.out HCp.out HLp.out HPV.out.1 HiS.out Hs16.out HN16.out).mono ?_
              rintro x w1 ⟨rfl, hr1, ht1⟩
              have HR1 := Aside0.mk hr1
              have HT1 := Aside0.mk (HT.out.trans ht1 (fun k hk => .inl hk))
              clear hr1 ht1 q1 hy0 hy1
              go_wp2
              go_roundg k1
              case measure => omega
              case rel =>
                refine ⟨j + 1, ?_, ⟨by have := HJ.out; omega⟩, ⟨?_⟩, HT1⟩
                · exact congrArg (Value.int .i64) (widx (by have := HLT.out; have := HN.out; omega))
                · rw [crashW_step HQ.out, crashS, if_neg HKB.out, if_pos HTB.out]
                  exact HR1.out
            · have HTB := Aside0.mk ct
              have ctb : ((j : Int) == torn) = false := beq_eq_false_iff_ne.mpr ct
              clear ct
              go_wp2
              go_roundg k1
              case measure => omega
              case rel =>
                refine ⟨j + 1, ?_, ⟨by have := HJ.out; omega⟩, ⟨?_⟩, HT⟩
                · exact congrArg (Value.int .i64) (widx (by have := HLT.out; have := HN.out; omega))
                · rw [crashW_step HQ.out, crashS, if_neg HKB.out, if_neg HTB.out]
                  exact HR.out
        · have HKB := Aside0.mk (show ¬ keep.getD j false = true by rw [List.getD_eq_getElem?_getD, List.getElem?_eq_none (by omega)]; decide)
          have k1' : decide ((j : Int) < (keep.length : Int)) = false := decide_eq_false (by omega)
          have k3' : decide (j < keep.length) = false := decide_eq_false ckl
          clear ckl
          by_cases ct : (j : Int) = torn
          · have HTB := Aside0.mk ct
            have ctb : ((j : Int) == torn) = true := beq_iff_eq.mpr ct
            clear ct
            go_wp2_with fail
            refine (refput_walk base D vS _ (crashW keep torn 0 S W j) W p.1 p.2 Ap cp 0 wr HR.out HCp.out HLp.out HPV.out.1 HiS.out Hs16.out HN16.out).mono ?_
            rintro x w1 ⟨rfl, hr1, ht1⟩
            have HR1 := Aside0.mk hr1
            have HT1 := Aside0.mk (HT.out.trans ht1 (fun k hk => .inl hk))
            clear hr1 ht1 q1 hy0 hy1
            go_wp2
            go_roundg k1
            case measure => omega
            case rel =>
              refine ⟨j + 1, ?_, ⟨by have := HJ.out; omega⟩, ⟨?_⟩, HT1⟩
              · exact congrArg (Value.int .i64) (widx (by have := HLT.out; have := HN.out; omega))
              · rw [crashW_step HQ.out, crashS, if_neg HKB.out, if_pos HTB.out]
                exact HR1.out
          · have HTB := Aside0.mk ct
            have ctb : ((j : Int) == torn) = false := beq_eq_false_iff_ne.mpr ct
            clear ct
            go_wp2
            go_roundg k1
            case measure => omega
            case rel =>
              refine ⟨j + 1, ?_, ⟨by have := HJ.out; omega⟩, ⟨?_⟩, HT⟩
              · exact congrArg (Value.int .i64) (widx (by have := HLT.out; have := HN.out; omega))
              · rw [crashW_step HQ.out, crashS, if_neg HKB.out, if_neg HTB.out]
                exact HR.out
      · obtain rfl : W.length = j := by have := HJ.out; omega
        have r0 : decide (W.length < W.length) = false := decide_eq_false (by omega)
        have f1 := blk_frozen HR.out.blk 1
        clear hlt
        go_wp2
        go_end0
        exact ⟨rfl, HR.out.forget, HT.out.cellD 1 _⟩
  · go_enter Try.func18, Try.ntmps18
    go_wp2_with fail
    go_loopg [9] W.length (fun kq v9 w' => ∃ j : Nat, v9 = .int .i64 (j : Int) ∧ Aside0 (j + kq = W.length) ∧ Aside0 (RefAt base D vS (.slice AW W.length cW) (crashW keep torn 16 S W j) W w') ∧ Aside0 (RTouch D vS (.slice AW W.length cW) w w'))
    case atStart => exact ⟨0, rfl, ⟨by omega⟩, H, ⟨RTouch.refl _ _ _ _⟩⟩
    case round =>
      obtain ⟨j, rfl, HJ, HR, HT⟩ := hrel
      have q1 : wr.cell? ⟨D, 1, none⟩ = some (.slice AW W.length cW) := (blk_cell HR.out.blk 1).trans rfl
      have HKw := Aside0.mk (Kd.F_step HK.out (fun k hk1 hk2 => HT.out.block k hk2 hk1))
      by_cases hlt : j < W.length
      · obtain ⟨p, hp⟩ : ∃ p, W[j]? = some p := ⟨_, List.getElem?_eq_getElem hlt⟩
        obtain ⟨gW, cW', eW, hCW⟩ := rw_block HR.out (by omega)
        cases eW
        obtain ⟨Ap, cp, hy0, hy1, hlp, hCp⟩ := at_kw hCW j p hp
        have hpv := HP.out.val p (List.mem_of_getElem? hp)
        rw [hpv.2.2] at hy1 hlp hCp
        have HCp := Aside0.mk hCp
        have HLp := Aside0.mk hlp
        have HPV := Aside0.mk hpv
        have HQ := Aside0.mk hp
        have HLT := Aside0.mk hlt
        have HiS := Aside0.mk (show p.1 < ((crashW keep torn 16 S W j).length : Int) by rw [crashW_len]; exact HPV.out.2.1)
        have Hs16 := Aside0.mk (show ((crashW keep torn 16 S W j).getD p.1.toNat []).length = 16 by
          have hlt' : p.1.toNat < (crashW keep torn 16 S W j).length := by have := HPV.out.1; have := HiS.out; omega
          rw [List.getD_eq_getElem?_getD, List.getElem?_eq_getElem hlt', Option.getD_some]
          exact crashW_16 HN16.out HP.out.s16 (fun x hx => HP.out.val x hx) j _ (List.getElem_mem hlt'))
        have r1 : decide ((j : Int) < (W.length : Int)) = true := decide_eq_true (by omega)
        have r2 := eq_true (show 0 ≤ (j : Int) by omega)
        have r3 := eq_true (show (j : Int) < (W.length : Int) by omega)
        obtain ⟨k1, rfl⟩ : ∃ k1, gk = k1 + 1 := ⟨gk - 1, by have := HJ.out; omega⟩
        clear hCW hp hlt hlp hCp hpv
        by_cases ckl : j < keep.length
        · obtain ⟨adk, eAk, hxk⟩ := Kd.at_bool (Kd.F_now HKw.out) (j : Int) (by omega) (by omega)
          subst eAk
          rw [Int.toNat_natCast] at hxk
          have e1 : rdOf false keep (j : Int) = keep.getD j false := by unfold rdOf; rw [Int.toNat_natCast]
          have k1' : decide ((j : Int) < (keep.length : Int)) = true := decide_eq_true (by omega)
          have k2' := eq_true (show (j : Int) < (keep.length : Int) by omega)
          rw [e1] at hxk
          clear ckl e1
          by_cases ckb : keep.getD j false = true
          · have HKB := Aside0.mk ckb
            rw [ckb] at hxk
            clear ckb
            go_wp2_with fail
            refine (refput_walk base D vS _ (crashW keep torn 16 S W j) W p.1 p.2 Ap cp 16 wr HR.out HCp.out HLp.out HPV.out.1 HiS.out Hs16.out (Nat.le_refl _)).mono ?_
            rintro x w1 ⟨rfl, hr1, ht1⟩
            rw [put16 HPV.out.2.2 Hs16.out] at hr1
            have HR1 := Aside0.mk hr1
            have HT1 := Aside0.mk (HT.out.trans ht1 (fun k hk => .inl hk))
            clear hr1 ht1 q1 hy0 hy1
            go_wp2
            go_roundg k1
            case measure => omega
            case rel =>
              refine ⟨j + 1, ?_, ⟨by have := HJ.out; omega⟩, ⟨?_⟩, HT1⟩
              · exact congrArg (Value.int .i64) (widx (by have := HLT.out; have := HN.out; omega))
              · rw [crashW_step HQ.out, crashS, if_pos HKB.out]
                exact HR1.out
          · have HKB := Aside0.mk ckb
            rw [Bool.eq_false_iff.mpr ckb] at hxk
            clear ckb
            by_cases ct : (j : Int) = torn
            · have HTB := Aside0.mk ct
              have ctb : ((j : Int) == torn) = true := beq_iff_eq.mpr ct
              clear ct
              go_wp2_with fail
              refine (refput_walk base D vS _ (crashW keep torn 16 S W j) W p.1 p.2 Ap cp 16 wr HR.out HCp.out HLp.out HPV.out.1 HiS.out Hs16.out HN16.out).mono ?_
              rintro x w1 ⟨rfl, hr1, ht1⟩
              have HR1 := Aside0.mk hr1
              have HT1 := Aside0.mk (HT.out.trans ht1 (fun k hk => .inl hk))
              clear hr1 ht1 q1 hy0 hy1
              go_wp2
              go_roundg k1
              case measure => omega
              case rel =>
                refine ⟨j + 1, ?_, ⟨by have := HJ.out; omega⟩, ⟨?_⟩, HT1⟩
                · exact congrArg (Value.int .i64) (widx (by have := HLT.out; have := HN.out; omega))
                · rw [crashW_step HQ.out, crashS, if_neg HKB.out, if_pos HTB.out]
                  exact HR1.out
            · have HTB := Aside0.mk ct
              have ctb : ((j : Int) == torn) = false := beq_eq_false_iff_ne.mpr ct
              clear ct
              go_wp2
              go_roundg k1
              case measure => omega
              case rel =>
                refine ⟨j + 1, ?_, ⟨by have := HJ.out; omega⟩, ⟨?_⟩, HT⟩
                · exact congrArg (Value.int .i64) (widx (by have := HLT.out; have := HN.out; omega))
                · rw [crashW_step HQ.out, crashS, if_neg HKB.out, if_neg HTB.out]
                  exact HR.out
        · have HKB := Aside0.mk (show ¬ keep.getD j false = true by rw [List.getD_eq_getElem?_getD, List.getElem?_eq_none (by omega)]; decide)
          have k1' : decide ((j : Int) < (keep.length : Int)) = false := decide_eq_false (by omega)
          have k3' : decide (j < keep.length) = false := decide_eq_false ckl
          clear ckl
          by_cases ct : (j : Int) = torn
          · have HTB := Aside0.mk ct
            have ctb : ((j : Int) == torn) = true := beq_iff_eq.mpr ct
            clear ct
            go_wp2_with fail
            refine (refput_walk base D vS _ (crashW keep torn 16 S W j) W p.1 p.2 Ap cp 16 wr HR.out HCp.out HLp.out HPV.out.1 HiS.out Hs16.out HN16.out).mono ?_
            rintro x w1 ⟨rfl, hr1, ht1⟩
            have HR1 := Aside0.mk hr1
            have HT1 := Aside0.mk (HT.out.trans ht1 (fun k hk => .inl hk))
            clear hr1 ht1 q1 hy0 hy1
            go_wp2
            go_roundg k1
            case measure => omega
            case rel =>
              refine ⟨j + 1, ?_, ⟨by have := HJ.out; omega⟩, ⟨?_⟩, HT1⟩
              · exact congrArg (Value.int .i64) (widx (by have := HLT.out; have := HN.out; omega))
              · rw [crashW_step HQ.out, crashS, if_neg HKB.out, if_pos HTB.out]
                exact HR1.out
          · have HTB := Aside0.mk ct
            have ctb : ((j : Int) == torn) = false := beq_eq_false_iff_ne.mpr ct
            clear ct
            go_wp2
            go_roundg k1
            case measure => omega
            case rel =>
              refine ⟨j + 1, ?_, ⟨by have := HJ.out; omega⟩, ⟨?_⟩, HT⟩
              · exact congrArg (Value.int .i64) (widx (by have := HLT.out; have := HN.out; omega))
              · rw [crashW_step HQ.out, crashS, if_neg HKB.out, if_neg HTB.out]
                exact HR.out
      · obtain rfl : W.length = j := by have := HJ.out; omega
        have r0 : decide (W.length < W.length) = false := decide_eq_false (by omega)
        have f1 := blk_frozen HR.out.blk 1
        clear hlt
        go_wp2
        go_end0
        exact ⟨rfl, HR.out.forget, HT.out.cellD 1 _⟩
  · go_enter Try.func18, Try.ntmps18
    go_wp2_with fail
    go_loopg [9] W.length (fun kq v9 w' => ∃ j : Nat, v9 = .int .i64 (j : Int) ∧ Aside0 (j + kq = W.length) ∧ Aside0 (RefAt base D vS (.slice AW W.length cW) (crashW keep torn n S W j) W w') ∧ Aside0 (RTouch D vS (.slice AW W.length cW) w w'))
    case atStart => exact ⟨0, rfl, ⟨by omega⟩, H, ⟨RTouch.refl _ _ _ _⟩⟩
    case round =>
      obtain ⟨j, rfl, HJ, HR, HT⟩ := hrel
      have q1 : wr.cell? ⟨D, 1, none⟩ = some (.slice AW W.length cW) := (blk_cell HR.out.blk 1).trans rfl
      have HKw := Aside0.mk (Kd.F_step HK.out (fun k hk1 hk2 => HT.out.block k hk2 hk1))
      by_cases hlt : j < W.length
      · obtain ⟨p, hp⟩ : ∃ p, W[j]? = some p := ⟨_, List.getElem?_eq_getElem hlt⟩
        obtain ⟨gW, cW', eW, hCW⟩ := rw_block HR.out (by omega)
        cases eW
        obtain ⟨Ap, cp, hy0, hy1, hlp, hCp⟩ := at_kw hCW j p hp
        have hpv := HP.out.val p (List.mem_of_getElem? hp)
        rw [hpv.2.2] at hy1 hlp hCp
        have HCp := Aside0.mk hCp
        have HLp := Aside0.mk hlp
        have HPV := Aside0.mk hpv
        have HQ := Aside0.mk hp
        have HLT := Aside0.mk hlt
        have HiS := Aside0.mk (show p.1 < ((crashW keep torn n S W j).length : Int) by rw [crashW_len]; exact HPV.out.2.1)
        have Hs16 := Aside0.mk (show ((crashW keep torn n S W j).getD p.1.toNat []).length = 16 by
          have hlt' : p.1.toNat < (crashW keep torn n S W j).length := by have := HPV.out.1; have := HiS.out; omega
          rw [List.getD_eq_getElem?_getD, List.getElem?_eq_getElem hlt', Option.getD_some]
          exact crashW_16 HN16.out HP.out.s16 (fun x hx => HP.out.val x hx) j _ (List.getElem_mem hlt'))
        have r1 : decide ((j : Int) < (W.length : Int)) = true := decide_eq_true (by omega)
        have r2 := eq_true (show 0 ≤ (j : Int) by omega)
        have r3 := eq_true (show (j : Int) < (W.length : Int) by omega)
        obtain ⟨k1, rfl⟩ : ∃ k1, gk = k1 + 1 := ⟨gk - 1, by have := HJ.out; omega⟩
        clear hCW hp hlt hlp hCp hpv
        by_cases ckl : j < keep.length
        · obtain ⟨adk, eAk, hxk⟩ := Kd.at_bool (Kd.F_now HKw.out) (j : Int) (by omega) (by omega)
          subst eAk
          rw [Int.toNat_natCast] at hxk
          have e1 : rdOf false keep (j : Int) = keep.getD j false := by unfold rdOf; rw [Int.toNat_natCast]
          have k1' : decide ((j : Int) < (keep.length : Int)) = true := decide_eq_true (by omega)
          have k2' := eq_true (show (j : Int) < (keep.length : Int) by omega)
          rw [e1] at hxk
          clear ckl e1
          by_cases ckb : keep.getD j false = true
          · have HKB := Aside0.mk ckb
            rw [ckb] at hxk
            clear ckb
            go_wp2_with fail
            refine (refput_walk base D vS _ (crashW keep torn n S W j) W p.1 p.2 Ap cp 16 wr HR.out HCp.out HLp.out HPV.out.1 HiS.out Hs16.out (Nat.le_refl _)).mono ?_
            rintro x w1 ⟨rfl, hr1, ht1⟩
            rw [put16 HPV.out.2.2 Hs16.out] at hr1
            have HR1 := Aside0.mk hr1
            have HT1 := Aside0.mk (HT.out.trans ht1 (fun k hk => .inl hk))
            clear hr1 ht1 q1 hy0 hy1
            go_wp2
            go_roundg k1
            case measure => omega
            case rel =>
              refine ⟨j + 1, ?_, ⟨by have := HJ.out; omega⟩, ⟨?_⟩, HT1⟩
              · exact congrArg (Value.int .i64) (widx (by have := HLT.out; have := HN.out; omega))
              · rw [crashW_step HQ.out, crashS, if_pos HKB.out]
                exact HR1.out
          · have HKB := Aside0.mk ckb
            rw [Bool.eq_false_iff.mpr ckb] at hxk
            clear ckb
            by_cases ct : (j : Int) = torn
            · have HTB := Aside0.mk ct
              have ctb : ((j : Int) == torn) = true := beq_iff_eq.mpr ct
              clear ct
              go_wp2_with fail
              refine (refput_walk base D vS _ (crashW keep torn n S W j) W p.1 p.2 Ap cp n wr HR.out HCp.out HLp.out HPV.out.1 HiS.out Hs16.out HN16.out).mono ?_
              rintro x w1 ⟨rfl, hr1, ht1⟩
              have HR1 := Aside0.mk hr1
              have HT1 := Aside0.mk (HT.out.trans ht1 (fun k hk => .inl hk))
              clear hr1 ht1 q1 hy0 hy1
              go_wp2
              go_roundg k1
              case measure => omega
              case rel =>
                refine ⟨j + 1, ?_, ⟨by have := HJ.out; omega⟩, ⟨?_⟩, HT1⟩
                · exact congrArg (Value.int .i64) (widx (by have := HLT.out; have := HN.out; omega))
                · rw [crashW_step HQ.out, crashS, if_neg HKB.out, if_pos HTB.out]
                  exact HR1.out
            · have HTB := Aside0.mk ct
              have ctb : ((j : Int) == torn) = false := beq_eq_false_iff_ne.mpr ct
              clear ct
              go_wp2
              go_roundg k1
              case measure => omega
              case rel =>
                refine ⟨j + 1, ?_, ⟨by have := HJ.out; omega⟩, ⟨?_⟩, HT⟩
                · exact congrArg (Value.int .i64) (widx (by have := HLT.out; have := HN.out; omega))
                · rw [crashW_step HQ.out, crashS, if_neg HKB.out, if_neg HTB.out]
                  exact HR.out
        · have HKB := Aside0.mk (show ¬ keep.getD j false = true by rw [List.getD_eq_getElem?_getD, List.getElem?_eq_none (by omega)]; decide)
          have k1' : decide ((j : Int) < (keep.length : Int)) = false := decide_eq_false (by omega)
          have k3' : decide (j < keep.length) = false := decide_eq_false ckl
          clear ckl
          by_cases ct : (j : Int) = torn
          · have HTB := Aside0.mk ct
            have ctb : ((j : Int) == torn) = true := beq_iff_eq.mpr ct
            clear ct
            go_wp2_with fail
            refine (refput_walk base D vS _ (crashW keep torn n S W j) W p.1 p.2 Ap cp n wr HR.out HCp.out HLp.out HPV.out.1 HiS.out Hs16.out HN16.out).mono ?_
            rintro x w1 ⟨rfl, hr1, ht1⟩
            have HR1 := Aside0.mk hr1
            have HT1 := Aside0.mk (HT.out.trans ht1 (fun k hk => .inl hk))
            clear hr1 ht1 q1 hy0 hy1
            go_wp2
            go_roundg k1
            case measure => omega
            case rel =>
              refine ⟨j + 1, ?_, ⟨by have := HJ.out; omega⟩, ⟨?_⟩, HT1⟩
              · exact congrArg (Value.int .i64) (widx (by have := HLT.out; have := HN.out; omega))
              · rw [crashW_step HQ.out, crashS, if_neg HKB.out, if_pos HTB.out]
                exact HR1.out
          · have HTB := Aside0.mk ct
            have ctb : ((j : Int) == torn) = false := beq_eq_false_iff_ne.mpr ct
            clear ct
            go_wp2
            go_roundg k1
            case measure => omega
            case rel =>
              refine ⟨j + 1, ?_, ⟨by have := HJ.out; omega⟩, ⟨?_⟩, HT⟩
              · exact congrArg (Value.int .i64) (widx (by have := HLT.out; have := HN.out; omega))
              · rw [crashW_step HQ.out, crashS, if_neg HKB.out, if_neg HTB.out]
                exact HR.out
      · obtain rfl : W.length = j := by have := HJ.out; omega
        have r0 : decide (W.length < W.length) = false := decide_eq_false (by omega)
        have f1 := blk_frozen HR.out.blk 1
        clear hlt
        go_wp2
        go_end0
        exact ⟨rfl, HR.out.forget, HT.out.cellD 1 _⟩
theorem refcrash_walk (base D m q : Nat) (vS vW : Value) (S : List (List Int)) (W : List (Int × List Int)) (Ak : Option Addr) (ck : Nat) (keep : List Bool) (torn bytes : Int) (w : World) (h : RefAt base D vS vW S W w) (hp : Parts m q S W) (hq : q < 1099511627776)
    (hk : Kd.F Kd.bool w (fun k => ¬ InR D vS vW k) Ak keep.length keep) :
    Calls Try.prog 18 #[.pointer (some ⟨D, 0, none⟩), .slice Ak keep.length ck, .int .i64 torn, .int .i64 bytes] w fun x w' => x = .returned (.tuple #[]) ∧ RefAt base D vS (.slice none 0 0) (crashW keep torn (clampB bytes) S W W.length) [] w' ∧ RTouch D vS vW w w' := by
  refine refcrash_n base D m q (clampB bytes) vS vW S W Ak ck keep torn bytes w h hp hq (clampB_le bytes) hk ?_
  unfold clampB
  by_cases c : bytes < 0
  · exact .inl ⟨decide_eq_true c, by rw [if_pos c]; rfl⟩
  · by_cases d : 16 < bytes
    · exact .inr (.inl ⟨decide_eq_false c, decide_eq_true d, by rw [if_neg c, if_pos d]; rfl⟩)
    · exact .inr (.inr ⟨decide_eq_false c, decide_eq_false d, by rw [if_neg c, if_neg d]; omega⟩)
end Go.Proofs.Ytfmgealooebciaa.PAll
