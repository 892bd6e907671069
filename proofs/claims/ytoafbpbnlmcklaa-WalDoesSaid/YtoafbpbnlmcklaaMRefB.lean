/- Texts merged: RefAppend RefRoom WalLoose. -/
import Derived.Test.YtoafbpbnlmcklaaMRefA
namespace Go.Proofs.Ytoafbpbnlmcklaa.PAll
open Go.RowKit Go.Proofs.YtoafbpbnlmcklaaW.PrintWords Go.Proofs.YtoafbpbnlmcklaaW.PrintLast Go.Proofs.YtoafbpbnlmcklaaW.PrintMore Go.Proofs.Ytoafbpbnlmcklaa.Pure
set_option linter.unusedVariables false
set_option linter.unusedSimpArgs false
structure RAppended (base baseW Wb D m : Nat) (vS vW vL : Value) (S : List (List Int)) (W : List (Int × List Int)) (L : List (List Int)) (u : Nat) (b : List Int) (w w' : World) : Prop where
  out : ∃ (vW' vL' : Value), RefAt base D vS vW' S (appW m u W b) w' ∧ WalAt 46 baseW Wb D vL' (appL m u L b) (appU m u b) w' ∧ (∀ k, vL'.ownBlock = some k → vS.ownBlock ≠ some k) ∧ TouchP (fun k => InR D vS vW k ∨ InW Wb vL k) w w' ∧ (∀ k, InR D vS vW' k → InR D vS vW k ∨ w.heap.size ≤ k) ∧ (∀ k, InW Wb vL' k → InW Wb vL k ∨ w.heap.size ≤ k)
theorem RAppended.same {base baseW Wb D m u : Nat} {vS vW vL : Value} {S : List (List Int)} {W : List (Int × List Int)} {L : List (List Int)} {b : List Int} {w w' : World} (h : RefAt base D vS vW S W w) (hw : WalAt 46 baseW Wb D vL L u w) (hap : ∀ k, vL.ownBlock = some k → vS.ownBlock ≠ some k) (hb : Below w.heap.size w w') (hn : ¬ fitsF m u b = true) : RAppended base baseW Wb D m vS vW vL S W L u b w w' := by
  refine ⟨vW, vL, ?_, ?_, hap, TouchP.of_below hb, fun k hk => .inl hk, fun k hk => .inl hk⟩
  · rw [appW, if_neg hn]; exact h.below hb
  · rw [appL, if_neg hn, appU, if_neg hn]; exact hw.below hb
set_option maxHeartbeats 1000000 in
set_option maxRecDepth 100000 in
theorem refappend_long (base baseW D m Wb u : Nat) (Ab : Option Addr) (vS vW vL : Value) (S : List (List Int)) (W : List (Int × List Int)) (L : List (List Int)) (b : List Int) (n cb : Nat) (w : World) (h : RefAt base D vS vW S W w) (hw : WalAt 46 baseW Wb D vL L u w) (hap : ∀ k, vL.ownBlock = some k → vS.ownBlock ≠ some k) (hbn : b.length = n) (hn : 1024 < n) :
    Calls Try.prog 28 #[.pointer (some ⟨Wb, 0, none⟩), .slice Ab n cb] w fun e w' => e = .returned (.int .i64 (appE m u b)) ∧ RAppended base baseW Wb D m vS vW vL S W L u b w w' := by
  have HA := Aside0.mk (RAppended.same (b := b) (m := m) h hw hap (Below.refl _ _) (fits_no1 (by omega)))
  have HE := Aside0.mk (show appE m u b = 1 by rw [appE, if_neg (by omega)])
  have l1 : decide ((n : Int) > 1024) = true := decide_eq_true (by omega)
  have l2 : decide (1024 < n) = true := decide_eq_true hn
  clear h hw hbn hn hap
  go_enter Try.func28, Try.ntmps28
  go_wp2
  go_ret
  exact ⟨by rw [HE.out]; rfl, HA.out⟩
set_option maxHeartbeats 8000000 in
set_option maxRecDepth 100000 in
theorem refappend_walk (base baseW D m q Wb u : Nat) (AS : Option Addr) (cS : Nat) (Ab : Option Addr) (vW vL : Value) (S : List (List Int)) (W : List (Int × List Int)) (L : List (List Int)) (b : List Int) (n cb : Nat) (w : World) (okb : Nat → Prop) (h : RefAt base D (.slice AS m cS) vW S W w) (hw : WalAt 46 baseW Wb D vL L u w) (hap : ∀ k, vL.ownBlock = some k → (Value.slice AS m cS).ownBlock ≠ some k) (hp : Parts m q S W) (hm : m ≤ 512) (hq : q ≤ 1000000) (hu : u ≤ m) (hL : L.length ≤ 1000000)
    (hb : Kd.F (Kd.int .u8) w okb Ab n b) (hok : ∀ k, okb k → ¬ InR D (.slice AS m cS) vW k ∧ ¬ InW Wb vL k) (hcb : n ≤ cb) :
    Calls Try.prog 28 #[.pointer (some ⟨Wb, 0, none⟩), .slice Ab n cb] w fun e w' => e = .returned (.int .i64 (appE m u b)) ∧ RAppended base baseW Wb D m (.slice AS m cS) vW vL S W L u b w w' := by
  have hbn : b.length = n := Kd.F_len hb
  by_cases c1024 : 1024 < n
  · exact refappend_long base baseW D m Wb u Ab _ vW vL S W L b n cb w h hw hap hbn c1024
  have H := Aside0.mk h
  have HW := Aside0.mk hw
  have HAP := Aside0.mk hap
  have HP := Aside0.mk hp
  have HM := Aside0.mk hm
  have HQ := Aside0.mk hq
  have HU := Aside0.mk hu
  have HLL := Aside0.mk hL
  have HB := Aside0.mk hb
  have HOK := Aside0.mk hok
  have HCB := Aside0.mk hcb
  have HBN := Aside0.mk hbn
  have HN := Aside0.mk (show n ≤ 1024 by omega)
  have l1 : decide ((n : Int) > 1024) = false := decide_eq_false (by omega)
  have l2 : decide (1024 < n) = false := decide_eq_false c1024
  obtain ⟨AL, cL, eL⟩ := Kd.R_slice hw.rs
  obtain ⟨nL, hnL⟩ : ∃ nL, nL = L.length := ⟨_, rfl⟩
  rw [← hnL] at eL
  subst eL
  have HNL := Aside0.mk hnL
  obtain ⟨ks, hks⟩ := sects_k b (by omega)
  have HKS := Aside0.mk hks
  clear h hw hp hm hq hu hL hb hok hcb hbn c1024 hnL hap hks
  go_enter Try.func28, Try.ntmps28
  go_wp2_with fail
  refine (calls_of_args (by rw [HBN.out]) (colloquyref20_sectors.calls ks Ab cb b (partsF b) w (by rw [HBN.out]; exact Kd.F_now HB.out) (by rw [HBN.out]; exact HCB.out) HKS.out)).mono ?_
  rintro e w1 ⟨v1, rfl, hs1, hb1⟩
  have ho1 := Kd.S_R hs1
  obtain ⟨AP, cP, eP⟩ := Kd.R_slice ho1
  obtain ⟨p, hp⟩ : ∃ p, p = nParts b := ⟨_, rfl⟩
  rw [partsF_len, ← hp] at eP
  subst eP
  have HPn := Aside0.mk hp
  have HPl := Aside0.mk (show p ≤ 1024 by rw [hp, nParts_eq, HBN.out]; have := sz_le8 (n := n) (by have := HN.out; omega); have := HN.out; omega)
  have HPF := Aside0.mk (Kd.F_mono (Kd.F_bound (Kd.R_F (Kd.R_bound ho1))) (fun k hk => (show w.heap.size ≤ k ∧ k < w1.heap.size from ⟨hk.1.2.1, hk.2⟩)))
  have HB1 := Aside0.mk hb1
  have HD1 := Aside0.mk (H.out.below hb1)
  have HW1 := Aside0.mk (HW.out.below hb1)
  have qw0 := blk_cell HW1.out.blk 0
  have qw2 := blk_cell HW1.out.blk 2
  have qd0 := blk_cell HD1.out.blk 0
  have HSl := Aside0.mk HP.out.len
  have lu : wrap64 ((u : Int) + (p : Int)) = (u : Int) + (p : Int) := by unfold wrap64; have := HU.out; have := HM.out; have := HPl.out; omega
  clear ho1 hs1 hb1 hp
  go_wp2_with fail
  go_quiet (fail)
  clear qw0 qw2 qd0
  obtain ⟨wq, hwq⟩ : ∃ wq, wq = w1.drewN nq := ⟨_, rfl⟩
  have HBq := Aside0.mk (show Below w1.heap.size w1 wq by rw [hwq]; exact pw_below_drewN (Below.refl _ _) _)
  have HTq := Aside0.mk (show wq.heap.size = w1.heap.size by rw [hwq]; rfl)
  rw [← hwq]
  clear hwq lu
  by_cases cf : u + p ≤ m
  · have HF := Aside0.mk cf
    have t1 : decide ((m : Int) < (u : Int) + (p : Int)) = false := decide_eq_false (by omega)
    have HDq := Aside0.mk (HD1.out.below HBq.out)
    have HWq := Aside0.mk (HW1.out.below HBq.out)
    have HPq := Aside0.mk (Kd.F_below HPF.out HBq.out)
    clear cf
    rw [t1]
    clear t1
    go_wp2_with fail
    go_loopg [6] p (fun kq v6 w' => ∃ (i : Nat) (vW' : Value), v6 = .int .i64 (i : Int) ∧ Aside0 (i + kq = p) ∧ Aside0 (RefAt base D (.slice AS m cS) vW' S (W ++ partsW u b i) w') ∧ Aside0 (WalAt 46 baseW Wb D (.slice AL nL cL) L u w') ∧ Aside0 (Kd.F (Kd.slice 5 (Kd.int .u8)) w' (fun k => w.heap.size ≤ k ∧ k < w1.heap.size) AP p (partsF b)) ∧ Aside0 (TouchP (InR D (.slice AS m cS) vW) w1 w') ∧ Aside0 (∀ k, InR D (.slice AS m cS) vW' k → InR D (.slice AS m cS) vW k ∨ w1.heap.size ≤ k))
    case atStart => exact ⟨0, vW, rfl, ⟨by omega⟩, ⟨by show RefAt base D (.slice AS m cS) vW S (W ++ []) wq; rw [List.append_nil]; exact HDq.out⟩, HWq, HPq, ⟨TouchP.of_below HBq.out⟩, ⟨fun k hk => .inl hk⟩⟩
    case round =>
      obtain ⟨i, vW', rfl, HI, HDr, HWr, HPr, HTr, HGr⟩ := hrel
      by_cases hlt : i < p
      · have HLT := Aside0.mk hlt
        have p1 : decide (i < p) = true := decide_eq_true hlt
        have p2 : decide ((i : Int) < (p : Int)) = true := decide_eq_true (by omega)
        have p3 := eq_true (show 0 ≤ (i : Int) by omega)
        have p4 := eq_true (show (i : Int) < (p : Int) by omega)
        obtain ⟨k1, rfl⟩ : ∃ k1, gk = k1 + 1 := ⟨gk - 1, by have := HI.out; omega⟩
        obtain ⟨ad, Aj, cj, e0, hx0, hlj, hCj⟩ := at_L1 (Kd.F_now HPr.out) (i : Int) (by omega) (by omega)
        subst e0
        rw [Int.toNat_natCast] at hx0
        have hpj : rd_L1 (partsF b) (i : Int) = partF b i := by
          unfold rd_L1
          rw [Int.toNat_natCast, List.getD_eq_getElem?_getD, partsF_get (by rw [← HPn.out]; exact hlt), Option.getD_some]
        have hpl : (partF b i).length = 16 := partF_len (by rw [← HPn.out]; exact hlt)
        rw [hpj, hpl] at hx0 hlj hCj
        have HCJ := Aside0.mk hCj
        have HLJ := Aside0.mk hlj
        have HPP := Aside0.mk (HP.out.parts (u := u) (b := b) (n := i) (by rw [← HPn.out]; omega) (by have := HF.out; omega))
        have qw0 := blk_cell (blk_drew HWr.out.blk) 0
        have qw2 := blk_cell (blk_drew HWr.out.blk) 2
        have qv0 := blk_cell HWr.out.blk 0
        have qv2 := blk_cell HWr.out.blk 2
        have hx1 := kfact (show wr.cell? (ad.add i) = some (.slice Aj 16 cj) from hx0) (below_drew (Below.refl wr.heap.size wr))
        have lw2 : wrap64 ((u : Int) + (i : Int)) = ((u + i : Nat) : Int) := by unfold wrap64; have := HU.out; have := HM.out; have := HPl.out; omega
        have HLW := Aside0.mk lw2
        have HDd := Aside0.mk (HDr.out.below (below_drew (Below.refl _ _)))
        have HWd := Aside0.mk (HWr.out.below (below_drew (Below.refl _ _)))
        have HPd := Aside0.mk (Kd.F_drew HPr.out)
        have HTd := Aside0.mk (HTr.out.below (below_drew (Below.refl _ _)))
        clear hlt hpj hpl hCj
        go_wp2_with fail
        go_still_tail 14, (by kernel_rfl)
        change wpList _ _ _ _ _ wr.drew
        clear qw0 qw2 qv0 qv2 lw2 hx0 hx1
        go_wp2_with fail
        refine (calls_of_args (by rw [HLW.out]) (refwrite_tot base D m (q + i) AS cS vW' S (W ++ partsW u b i) ((u + i : Nat) : Int) (partF b i) Aj 16 cj wr.drew HDd.out HPP.out (by have := HQ.out; have := HI.out; have := HPl.out; omega) (Kd.C_below HCJ.out (below_drew (Below.refl _ _))))).mono ?_
        rintro e w4 ⟨rfl, vW4, hd4, ht4, hg4⟩
        have HD4 := Aside0.mk (show RefAt base D (.slice AS m cS) vW4 S (W ++ partsW u b (i + 1)) w4 by
          have h1 : writeW S (W ++ partsW u b i) ((u + i : Nat) : Int) (partF b i) = W ++ partsW u b (i + 1) := by
            rw [writeW, if_pos ⟨by omega, by rw [HSl.out]; have := HF.out; have := HLT.out; omega, partF_len (by rw [← HPn.out]; exact HLT.out)⟩, partsW_succ, List.append_assoc]
          rw [← h1]; exact hd4)
        have HW4 := Aside0.mk (HWd.out.rtouch HDd.out HAP.out ht4)
        have HP4 := Aside0.mk (Kd.F_step HPd.out (fun k hk hlt => ht4.toP.block k hlt (fun hi => by
          rcases HGr.out k hi with h1 | h1
          · have := H.out.lt h1; omega
          · omega)))
        have HT4 := Aside0.mk (HTd.out.trans ht4.toP HGr.out)
        have HG4 := Aside0.mk (show ∀ k, InR D (.slice AS m cS) vW4 k → InR D (.slice AS m cS) vW k ∨ w1.heap.size ≤ k from fun k hk => by
          rcases hg4 k hk with h1 | h1
          · exact HGr.out k h1
          · exact .inr (Nat.le_trans HTd.out.size h1))
        clear hd4 ht4 hg4
        go_wp2_with fail
        go_roundg k1
        case measure => omega
        case rel =>
          refine ⟨i + 1, vW4, ?_, ⟨by have := HI.out; omega⟩, HD4, HW4, HP4, HT4, HG4⟩
          exact congrArg (Value.int .i64) (widx (by have := HLT.out; have := HPl.out; omega))
      · obtain rfl : p = i := by have := HI.out; omega
        have p1 : decide (p < p) = false := decide_eq_false (by omega)
        have p2 : decide ((p : Int) < (p : Int)) = false := decide_eq_false (by omega)
        clear hlt
        have qv2 := blk_cell HWr.out.blk 2
        have fv2 := blk_frozen HWr.out.blk 2
        have lu : wrap64 ((u : Int) + (p : Int)) = (u : Int) + (p : Int) := by unfold wrap64; have := HU.out; have := HM.out; have := HPl.out; omega
        have HBl5 := Aside0.mk (blk_put HWr.out.blk 2 (.int .i64 ((u : Int) + (p : Int))) rfl)
        have qv1 := blk_cell HBl5.out 1
        go_wp2_with fail
        obtain ⟨w5, hw5⟩ : ∃ w5, w5 = wr.setCell ⟨Wb, 2, none⟩ (.int .i64 ((u : Int) + (p : Int))) := ⟨_, rfl⟩
        rw [← hw5] at HBl5 qv1 ⊢
        have HR5 := Aside0.mk (show Kd.R (Kd.slice 5 (Kd.int .u8)) 28 w5 baseW (fun _ => True) (.slice AL nL cL) L by rw [hw5]; exact Kd.R_set HWr.out.rs HWr.out.blk (by decide) 2 _)
        have HTw := Aside0.mk (show TouchP (InW Wb (.slice AL nL cL)) wr w5 by rw [hw5]; exact (TouchP.refl _ _).setCell (.inl (.inl rfl)) 2 _)
        have HT5 := Aside0.mk (show TouchP (fun k => InR D (.slice AS m cS) vW k ∨ InW Wb (.slice AL nL cL) k) w1 w5 by rw [hw5]; exact (HTr.out.mono (fun k _ hk => .inl hk)).setCell (.inl (.inr (.inl rfl))) 2 _)
        have HD5 := Aside0.mk (show RefAt base D (.slice AS m cS) vW' S (W ++ partsW u b p) w5 from HDr.out.wtouch HWr.out HAP.out HTw.out)
        have HBw := Aside0.mk (show Kd.F (Kd.int .u8) w5 okb Ab n b from Kd.F_step (Kd.F_below HB.out HB1.out) (fun k hk hlt => HT5.out.block k hlt (fun hi => by
          rcases hi with h1 | h1
          · exact (HOK.out k hk).1 h1
          · exact (HOK.out k hk).2 h1)))
        clear hw5 qv2 fv2 qv1 lu
        go_wp2_with fail
        refine wp_region_held (S := fun U => U.cell? ⟨Wb, 1, none⟩ = some (.slice AL nL cL)) (some 11) [6, 7, 8] [0, 1, 2, 3, 4, 5, 6, 7, 8, 9, 10] (by kernel_rfl) rfl (by kernel_rfl) (by kernel_rfl) ((blk_cell (blk_drew HBl5.out) 1).trans rfl) (fun hHeld => ?_)
        refine held_read (i := 0) (N := (some 59)) (v := ?_) (a' := ?_) rfl rfl rfl (fun _ _ _ h => h) (Or.inl ⟨by rfl, ?_⟩) ?_ ?_
        rotate_left
        · intro w' hS
          go_simp
          with_reducible rfl
        rotate_left
        · simp only [Act.put, List.setIfInBounds_toArray, List.set_cons_zero, List.set_cons_succ, Go.Proofs.YtoafbpbnlmcklaaW.PrintLast.i64_w, Go.Proofs.YtoafbpbnlmcklaaW.PrintLast.i32_w]
          rfl
        refine held_read (i := 1) (N := (some 60)) (v := ?_) (a' := ?_) rfl rfl rfl (fun _ _ _ h => h) (Or.inl ⟨by rfl, ?_⟩) ?_ ?_
        rotate_left
        · intro w' hS
          go_simp
          with_reducible rfl
        rotate_left
        · simp only [Act.put, List.setIfInBounds_toArray, List.set_cons_zero, List.set_cons_succ, Go.Proofs.YtoafbpbnlmcklaaW.PrintLast.i64_w, Go.Proofs.YtoafbpbnlmcklaaW.PrintLast.i32_w]
          rfl
        refine held_read (i := 2) (N := (some 61)) (v := ?_) (a' := ?_) rfl rfl rfl (fun _ _ _ h => h) (Or.inl ⟨by rfl, ?_⟩) ?_ ?_
        rotate_left
        · intro w' hS
          go_simp
          with_reducible rfl
        rotate_left
        · simp only [Act.put, List.setIfInBounds_toArray, List.set_cons_zero, List.set_cons_succ, Go.Proofs.YtoafbpbnlmcklaaW.PrintLast.i64_w, Go.Proofs.YtoafbpbnlmcklaaW.PrintLast.i32_w]
          rfl
        refine held_read (i := 3) (N := (some 62)) (v := ?_) (a' := ?_) rfl rfl rfl (fun _ _ _ h => h) (Or.inl ⟨by rfl, ?_⟩) ?_ ?_
        rotate_left
        · intro w' hS
          go_simp
          with_reducible rfl
        rotate_left
        · simp only [Act.put, List.setIfInBounds_toArray, List.set_cons_zero, List.set_cons_succ, Go.Proofs.YtoafbpbnlmcklaaW.PrintLast.i64_w, Go.Proofs.YtoafbpbnlmcklaaW.PrintLast.i32_w]
          rfl
        refine held_read (i := 4) (N := (some 63)) (v := ?_) (a' := ?_) rfl rfl rfl (fun _ _ _ h => h) (Or.inl ⟨by rfl, ?_⟩) ?_ ?_
        rotate_left
        · intro w' hS
          go_simp
          with_reducible rfl
        rotate_left
        · simp only [Act.put, List.setIfInBounds_toArray, List.set_cons_zero, List.set_cons_succ, Go.Proofs.YtoafbpbnlmcklaaW.PrintLast.i64_w, Go.Proofs.YtoafbpbnlmcklaaW.PrintLast.i32_w]
          rfl
        refine held_read (i := 5) (N := (some 64)) (v := ?_) (a' := ?_) rfl rfl rfl (fun _ _ _ h => h) (Or.inl ⟨by rfl, ?_⟩) ?_ ?_
        rotate_left
        · intro w' hS
          go_simp
          with_reducible rfl
        rotate_left
        · simp only [Act.put, List.setIfInBounds_toArray, List.set_cons_zero, List.set_cons_succ, Go.Proofs.YtoafbpbnlmcklaaW.PrintLast.i64_w, Go.Proofs.YtoafbpbnlmcklaaW.PrintLast.i32_w]
          rfl
        refine held_run (i := 6) (N := (some 65)) rfl rfl rfl (fun K hK => ?_)
        refine Kd.R_append_rows_step (Kd.int .u8) (w0 := w5) w5.heap.size (by rfl) (.const (.slice none 0 0)) (.tmp 64) 28 5 (.int .u8 0) 1 rfl Try.underlying28 info5 rfl (by decide) (by omega) (.slice none 0 0) [] b Ab n cb (fun _ => True) (fun _ => False) rfl rfl (Kd.R_nil _ _ _ _ _) (Kd.C_below (Kd.F_now HBw.out) (below_drew (Below.refl _ _))) (fun _ _ h => h) (fun _ h => h.elim) (fun _ _ => trivial) (below_drew (Below.refl _ _)) ?aS ?aL ?_
        case aS => exact Nat.le_refl _
        case aL => have := HN.out; simp; omega
        intro v6 w6 ho6 hb6 hg6 hat6
        rw [List.nil_append] at ho6
        have HB6 := Aside0.mk (show Below w5.heap.size w5 w6 from hb6)
        have HO6 := Aside0.mk (show Kd.R (Kd.int .u8) 5 w6 w5.heap.size (fun _ => True) v6 b from ho6)
        have HBl6 := Aside0.mk (blk_below HBl5.out HB6.out)
        have HR6 := Aside0.mk (Kd.R_below HR5.out HB6.out)
        clear ho6 hb6 hg6 hat6
        refine hK.out _ _ ((blk_cell HBl6.out 1).trans rfl) ?_
        clear hK K
        refine held_norm (a' := ?_) ?_ ?_
        rotate_left
        · simp only [Act.put, List.setIfInBounds_toArray, List.set_cons_zero, List.set_cons_succ, Go.Proofs.YtoafbpbnlmcklaaW.PrintLast.i64_w, Go.Proofs.YtoafbpbnlmcklaaW.PrintLast.i32_w]
          rfl
        obtain ⟨A6, c6, e6⟩ := Kd.R_slice HO6.out
        subst e6
        refine held_run (i := 7) (N := (some 66)) rfl rfl rfl (fun K hK => ?_)
        go_simp
        refine hK.out _ _ ((blk_cell (blk_alloc HBl6.out _) 1).trans rfl) ?_
        clear hK K
        refine held_run (i := 8) (N := (some 67)) rfl rfl rfl (fun K hK => ?_)
        refine Kd.R_append_step (Kd.slice 5 (Kd.int .u8)) (w0 := w6) (W := w6) baseW (by rfl) (.tmp 63) (.tmp 66) 22 28 (.slice none 0 0) 24 rfl Try.underlying22 info28' rfl (by decide) (by omega) (.slice AL nL cL) L b [.slice A6 b.length c6] (fun _ => True) (fun k => True ∧ some k ≠ (Value.slice AL nL cL).ownBlock) rfl rfl ?aP (fun _ hk => hk) (fun _ _ => trivial) HR6.out (Below.refl _ _) ?aC (by have := HLL.out; omega) ?_
        case aP => exact ⟨_, rfl, R_types' (Kd.R_lower HO6.out (Nat.le_trans HW.out.le (Nat.le_trans (Nat.le_of_lt (blk_lt HW.out.blk)) (Nat.le_trans HB1.out.size HT5.out.size)))) (fun k hk => by obtain ⟨inner, hown⟩ := Kd.R_own HR6.out; exact own_typed hown k hk) (by decide)⟩
        case aC => exact Nat.le_trans HW.out.le (Nat.le_of_lt (blk_lt HBl6.out))
        intro v7 w7 ho7 hb7 hg7 hat7
        have HO7 := Aside0.mk ho7
        have HG7 := Aside0.mk hg7
        have HAT := Aside0.mk hat7
        have HBl7 := Aside0.mk (blk_grown HBl6.out hg7 (Kd.R_ne HR6.out HBl6.out (by decide)))
        clear ho7 hb7 hg7 hat7
        refine hK.out _ _ ((blk_cell HBl7.out 1).trans rfl) ?_
        clear hK K
        refine held_norm (a' := ?_) ?_ ?_
        rotate_left
        · simp only [Act.put, List.setIfInBounds_toArray, List.set_cons_zero, List.set_cons_succ, Go.Proofs.YtoafbpbnlmcklaaW.PrintLast.i64_w, Go.Proofs.YtoafbpbnlmcklaaW.PrintLast.i32_w]
          rfl
        refine held_read (i := 9) (N := (some 68)) (v := ?_) (a' := ?_) rfl rfl rfl (fun _ _ _ h => h) (Or.inl ⟨by rfl, ?_⟩) ?_ ?_
        rotate_left
        · intro w' hS
          go_simp
          with_reducible rfl
        rotate_left
        · simp only [Act.put, List.setIfInBounds_toArray, List.set_cons_zero, List.set_cons_succ, Go.Proofs.YtoafbpbnlmcklaaW.PrintLast.i64_w, Go.Proofs.YtoafbpbnlmcklaaW.PrintLast.i32_w]
          rfl
        refine held_read (i := 10) (N := (some 69)) (v := ?_) (a' := ?_) rfl rfl rfl (fun _ _ _ h => h) (Or.inl ⟨by rfl, ?_⟩) ?_ ?_
        rotate_left
        · intro w' hS
          go_simp
          with_reducible rfl
        rotate_left
        · simp only [Act.put, List.setIfInBounds_toArray, List.set_cons_zero, List.set_cons_succ, Go.Proofs.YtoafbpbnlmcklaaW.PrintLast.i64_w, Go.Proofs.YtoafbpbnlmcklaaW.PrintLast.i32_w]
          rfl
        refine held_last (z := 11) (N := none) rfl rfl (fun K hK => ?_)
        obtain ⟨A7, c7, e7⟩ := Kd.R_slice HO7.out
        rw [show (L ++ [b]).length = L.length + 1 by simp] at e7
        subst e7
        have q1 := blk_cell HBl7.out 1
        have f1 := blk_frozen HBl7.out 1
        go_simp
        refine hK.out _ _ ?_
        clear hK K q1 f1
        go_wp2
        go_ret
        have hfit : fitsF m u b = true := fits_yes (by rw [HBN.out]; exact HN.out) (by rw [← HPn.out]; exact HF.out)
        have hW6 : WalAt 46 baseW Wb D (.slice AL nL cL) L (u + p) w6 := ⟨by have h := HBl6.out; rw [← Int.natCast_add] at h; exact h, HW.out.le, HR6.out⟩
        have hD6 : RefAt base D (.slice AS m cS) vW' S (W ++ partsW u b p) w6 := HD5.out.below HB6.out
        have hG7 : TouchP (InW Wb (.slice AL nL cL)) w6 (w7.setCell ⟨Wb, 1, none⟩ (.slice A7 (L.length + 1) c7)) := ((TouchP.refl _ _).grown HG7.out (fun k hk => .inl (.inr hk))).setCell (.inl (.inl rfl)) 1 _
        have hsz : w.heap.size ≤ w1.heap.size := HB1.out.size
        have hT7 : TouchP (fun k => InR D (.slice AS m cS) vW k ∨ InW Wb (.slice AL nL cL) k) w (w7.setCell ⟨Wb, 1, none⟩ (.slice A7 (L.length + 1) c7)) :=
          ((((TouchP.of_below HB1.out).trans HT5.out (fun k hk => .inl hk)).below HB6.out).grown HG7.out (fun k hk => .inl (.inr (.inr hk)))).setCell (.inl (.inr (.inl rfl))) 1 _
        have hown7 : ∀ k, (Value.slice A7 (L.length + 1) c7).ownBlock = some k → (Value.slice AL nL cL).ownBlock = some k ∨ w6.heap.size ≤ k := fun k hk => by
          rcases HAT.out with e | ⟨b', e, hb'⟩
          · exact .inl (by rw [← e]; exact hk)
          · rw [e] at hk
            injection hk with hk
            exact .inr (by omega)
        refine ⟨by rw [appE, if_pos (by rw [HBN.out]; exact HN.out), if_pos (by rw [← HPn.out]; exact HF.out)]; rfl, ⟨vW', .slice A7 (L.length + 1) c7, ?_, ?_, fun k hk e => ?_, ?_, fun k hk => ?_, fun k hk => ?_⟩⟩
        · rw [appW, if_pos hfit, ← HPn.out]
          exact hD6.wtouch hW6 HAP.out hG7
        · rw [appL, if_pos hfit, appU, if_pos hfit, ← HPn.out]
          refine ⟨?_, HW.out.le, Kd.R_set HO7.out HBl7.out (by decide) 1 _⟩
          rw [Int.natCast_add]
          exact blk_put HBl7.out 1 _ rfl
        · rcases hown7 k hk with h1 | h1
          · exact HAP.out k h1 e
          · have := Kd.R_lt hD6.rs k e
            omega
        · exact hT7
        · rcases HGr.out k hk with h1 | h1
          · exact .inl h1
          · exact .inr (Nat.le_trans hsz h1)
        · rcases hk with rfl | hk
          · exact .inl (.inl rfl)
          · rcases hown7 k hk with h1 | h1
            · exact .inl (.inr h1)
            · exact .inr (by have := HT5.out.size; have := HB6.out.size; omega)
  · have t1 : decide ((m : Int) < (u : Int) + (p : Int)) = true := decide_eq_true (by omega)
    rw [t1]
    have HA := Aside0.mk (RAppended.same (b := b) (m := m) H.out HW.out HAP.out (below_then HB1.out HB1.out.size HBq.out) (fits_no2 (by rw [← HPn.out]; exact cf)))
    have HE := Aside0.mk (show appE m u b = 7 by rw [appE, if_pos (by rw [HBN.out]; exact HN.out), if_neg (by rw [← HPn.out]; exact cf)])
    clear t1 cf
    go_wp2
    go_ret
    exact ⟨by rw [HE.out]; rfl, HA.out⟩
end Go.Proofs.Ytoafbpbnlmcklaa.PAll

namespace Go.Proofs.Ytoafbpbnlmcklaa.PAll
open Go.RowKit Go.Proofs.YtoafbpbnlmcklaaW.PrintWords Go.Proofs.YtoafbpbnlmcklaaW.PrintLast Go.Proofs.YtoafbpbnlmcklaaW.PrintMore Go.Proofs.Ytoafbpbnlmcklaa.Pure
set_option linter.unusedVariables false
set_option linter.unusedSimpArgs false
/-- The greatest number, of those below a bound, for which there is room. -/
def Best (m u j : Nat) (best : Int) : Prop := (best = -1 ∧ ∀ k, k < j → ¬ u + nParts (List.replicate k 0) ≤ m) ∨ ∃ r : Nat, best = (r : Int) ∧ r < j ∧ u + nParts (List.replicate r 0) ≤ m ∧ ∀ k, r < k → k < j → ¬ u + nParts (List.replicate k 0) ≤ m
theorem Best.yes {m u j : Nat} {best : Int} (h : Best m u j best) (c : u + nParts (List.replicate j 0) ≤ m) : Best m u (j + 1) (j : Int) := .inr ⟨j, rfl, by omega, c, fun k h1 h2 => by omega⟩
theorem Best.no {m u j : Nat} {best : Int} (h : Best m u j best) (c : ¬ u + nParts (List.replicate j 0) ≤ m) : Best m u (j + 1) best := by
  rcases h with ⟨h1, h2⟩ | ⟨r, h1, h2, h3, h4⟩
  · refine .inl ⟨h1, fun k hk => ?_⟩
    by_cases e : k = j
    · rw [e]; exact c
    · exact h2 k (by omega)
  · refine .inr ⟨r, h1, by omega, h3, fun k hk1 hk2 => ?_⟩
    by_cases e : k = j
    · rw [e]; exact c
    · exact h4 k hk1 (by omega)
theorem Best.room {m u : Nat} {best : Int} (hu : u ≤ m) (h : Best m u 1025 best) : best = roomF m u := by
  have key : ∀ k, (u + nParts (List.replicate k 0) ≤ m ↔ k + sz k ≤ (m - u) * 15) := fun k => by
    rw [nParts_eq, List.length_replicate]; omega
  unfold roomF
  rcases roomL_spec ((m - u) * 15) (min ((m - u) * 15) 1024) with ⟨g1, g2⟩ | ⟨s, g1, g2, g3, g4⟩
  · rw [g1]
    rcases h with ⟨h1, h2⟩ | ⟨r, h1, h2, h3, h4⟩
    · exact h1
    · rw [key] at h3
      exact absurd h3 (g2 r (by omega))
  · rw [g1]
    rcases h with ⟨h1, h2⟩ | ⟨r, h1, h2, h3, h4⟩
    · exact absurd ((key s).2 g3) (h2 s (by omega))
    · rw [key] at h3
      by_cases c1 : r < s
      · exact absurd ((key s).2 g3) (h4 s c1 (by omega))
      · by_cases c2 : s < r
        · exact absurd h3 (g4 r c2 (by omega))
        · rw [h1]; omega
set_option maxHeartbeats 8000000 in
set_option maxRecDepth 100000 in
theorem refroom_walk (base baseW D m q Wb u : Nat) (AS : Option Addr) (cS : Nat) (vW vL : Value) (S : List (List Int)) (W : List (Int × List Int)) (L : List (List Int)) (w : World) (h : RefAt base D (.slice AS m cS) vW S W w) (hw : WalAt 46 baseW Wb D vL L u w) (hm : m ≤ 512) (hu : u ≤ m) :
    Calls Try.prog 31 #[.pointer (some ⟨Wb, 0, none⟩)] w fun e w' => e = .returned (.int .i64 (roomF m u)) ∧ Below w.heap.size w w' := by
  have H := Aside0.mk h
  have HW := Aside0.mk hw
  have HM := Aside0.mk hm
  have HU := Aside0.mk hu
  clear h hw hm hu
  go_enter Try.func31, Try.ntmps31
  go_wp2_with fail
  go_loopg [3, 4] 1025 (fun kq v3 v4 w' => ∃ (j : Nat) (best : Int), v3 = .int .i64 best ∧ v4 = .int .i64 (j : Int) ∧ Aside0 (j + kq = 1025) ∧ Aside0 (Best m u j best) ∧ Aside0 (Below w.heap.size w w'))
  case atStart => exact ⟨0, -1, rfl, rfl, ⟨rfl⟩, ⟨.inl ⟨rfl, fun k hk => by omega⟩⟩, ⟨Below.refl _ _⟩⟩
  case round =>
    obtain ⟨j, best, rfl, rfl, HJ, HBe, HB⟩ := hrel
    by_cases hlt : j < 1025
    · have HLT := Aside0.mk hlt
      obtain ⟨jI, hjI⟩ : ∃ jI : Int, jI = (j : Int) := ⟨_, rfl⟩
      have HJI := Aside0.mk hjI
      rw [← hjI]
      have p1 : decide (jI ≤ 1024) = true := decide_eq_true (by omega)
      obtain ⟨k1, rfl⟩ : ∃ k1, gk = k1 + 1 := ⟨gk - 1, by have := HJ.out; omega⟩
      obtain ⟨p, hp⟩ : ∃ p, p = nParts (List.replicate j 0) := ⟨_, rfl⟩
      have HPn := Aside0.mk hp
      have HPl := Aside0.mk (show p ≤ 1024 by rw [hp, nParts_eq, List.length_replicate]; have := sz_small (n := j) (by omega); omega)
      have HDr := Aside0.mk (H.out.below HB.out)
      have HWr := Aside0.mk (HW.out.below HB.out)
      obtain ⟨ks, hks⟩ := sects_k (List.replicate j 0) (by rw [List.length_replicate]; omega)
      have HKS := Aside0.mk hks
      clear hlt hjI hp hks
      go_wp2_with fail
      refine wp_region_held (S := fun U => U.cell? ⟨Wb, 2, none⟩ = some (.int .i64 (u : Int)) ∧ U.cell? ⟨Wb, 0, none⟩ = some (.pointer (some ⟨D, 0, none⟩)) ∧ U.cell? ⟨D, 0, none⟩ = some (.slice AS m cS)) none [5, 6, 7, 8, 17] [0, 1, 2, 3, 4, 9, 10, 11, 12, 13, 14, 15, 16, 5, 6, 7, 8, 17] (by kernel_rfl) rfl (by kernel_rfl) (by kernel_rfl) ⟨(blk_cell (blk_drew HWr.out.blk) 2).trans rfl, (blk_cell (blk_drew HWr.out.blk) 0).trans rfl, (blk_cell (blk_drew HDr.out.blk) 0).trans rfl⟩ (fun hHeld => ?_)
      refine held_read (i := 0) (N := (some 9)) (v := ?_) (a' := ?_) rfl rfl rfl (fun _ _ _ h => h) (Or.inl ⟨by rfl, ?_⟩) ?_ ?_
      rotate_left
      · intro w' ⟨h0, h1, h2⟩
        go_simp
        with_reducible rfl
      rotate_left
      · simp only [Act.put, List.setIfInBounds_toArray, List.set_cons_zero, List.set_cons_succ, Go.Proofs.YtoafbpbnlmcklaaW.PrintLast.i64_w, Go.Proofs.YtoafbpbnlmcklaaW.PrintLast.i32_w]
        rfl
      refine held_read (i := 1) (N := (some 10)) (v := ?_) (a' := ?_) rfl rfl rfl (fun _ _ _ h => h) (Or.inl ⟨by rfl, ?_⟩) ?_ ?_
      rotate_left
      · intro w' ⟨h0, h1, h2⟩
        go_simp
        with_reducible rfl
      rotate_left
      · simp only [Act.put, List.setIfInBounds_toArray, List.set_cons_zero, List.set_cons_succ, Go.Proofs.YtoafbpbnlmcklaaW.PrintLast.i64_w, Go.Proofs.YtoafbpbnlmcklaaW.PrintLast.i32_w]
        rfl
      refine held_read (i := 2) (N := (some 11)) (v := ?_) (a' := ?_) rfl rfl rfl (fun _ _ _ h => h) (Or.inl ⟨by rfl, ?_⟩) ?_ ?_
      rotate_left
      · intro w' ⟨h0, h1, h2⟩
        go_simp
        with_reducible rfl
      rotate_left
      · simp only [Act.put, List.setIfInBounds_toArray, List.set_cons_zero, List.set_cons_succ, Go.Proofs.YtoafbpbnlmcklaaW.PrintLast.i64_w, Go.Proofs.YtoafbpbnlmcklaaW.PrintLast.i32_w]
        rfl
      refine held_read (i := 3) (N := (some 12)) (v := ?_) (a' := ?_) rfl rfl rfl (fun _ _ _ h => h) (Or.inl ⟨by rfl, ?_⟩) ?_ ?_
      rotate_left
      · intro w' ⟨h0, h1, h2⟩
        go_simp
        with_reducible rfl
      rotate_left
      · simp only [Act.put, List.setIfInBounds_toArray, List.set_cons_zero, List.set_cons_succ, Go.Proofs.YtoafbpbnlmcklaaW.PrintLast.i64_w, Go.Proofs.YtoafbpbnlmcklaaW.PrintLast.i32_w]
        rfl
      refine held_read (i := 4) (N := (some 13)) (v := ?_) (a' := ?_) rfl rfl rfl (fun _ _ _ h => h) (Or.inl ⟨by rfl, ?_⟩) ?_ ?_
      rotate_left
      · intro w' ⟨h0, h1, h2⟩
        go_simp
        with_reducible rfl
      rotate_left
      · simp only [Act.put, List.setIfInBounds_toArray, List.set_cons_zero, List.set_cons_succ, Go.Proofs.YtoafbpbnlmcklaaW.PrintLast.i64_w, Go.Proofs.YtoafbpbnlmcklaaW.PrintLast.i32_w]
        rfl
      refine held_read (i := 9) (N := (some 18)) (v := ?_) (a' := ?_) rfl rfl rfl (fun _ _ _ h => h) (Or.inl ⟨by rfl, ?_⟩) ?_ ?_
      rotate_left
      · intro w' ⟨h0, h1, h2⟩
        go_simp
        with_reducible rfl
      rotate_left
      · simp only [Act.put, List.setIfInBounds_toArray, List.set_cons_zero, List.set_cons_succ, Go.Proofs.YtoafbpbnlmcklaaW.PrintLast.i64_w, Go.Proofs.YtoafbpbnlmcklaaW.PrintLast.i32_w]
        rfl
      refine held_read (i := 10) (N := (some 19)) (v := ?_) (a' := ?_) rfl rfl rfl (fun _ _ _ h => h) (Or.inl ⟨by rfl, ?_⟩) ?_ ?_
      rotate_left
      · intro w' ⟨h0, h1, h2⟩
        go_simp
        with_reducible rfl
      rotate_left
      · simp only [Act.put, List.setIfInBounds_toArray, List.set_cons_zero, List.set_cons_succ, Go.Proofs.YtoafbpbnlmcklaaW.PrintLast.i64_w, Go.Proofs.YtoafbpbnlmcklaaW.PrintLast.i32_w]
        rfl
      refine held_read (i := 11) (N := (some 20)) (v := ?_) (a' := ?_) rfl rfl rfl (fun _ _ _ h => h) (Or.inl ⟨by rfl, ?_⟩) ?_ ?_
      rotate_left
      · intro w' ⟨h0, h1, h2⟩
        go_simp
        with_reducible rfl
      rotate_left
      · simp only [Act.put, List.setIfInBounds_toArray, List.set_cons_zero, List.set_cons_succ, Go.Proofs.YtoafbpbnlmcklaaW.PrintLast.i64_w, Go.Proofs.YtoafbpbnlmcklaaW.PrintLast.i32_w]
        rfl
      refine held_read (i := 12) (N := (some 21)) (v := ?_) (a' := ?_) rfl rfl rfl (fun _ _ _ h => h) (Or.inl ⟨by rfl, ?_⟩) ?_ ?_
      rotate_left
      · intro w' ⟨h0, h1, h2⟩
        go_simp
        with_reducible rfl
      rotate_left
      · simp only [Act.put, List.setIfInBounds_toArray, List.set_cons_zero, List.set_cons_succ, Go.Proofs.YtoafbpbnlmcklaaW.PrintLast.i64_w, Go.Proofs.YtoafbpbnlmcklaaW.PrintLast.i32_w]
        rfl
      refine held_read (i := 13) (N := (some 22)) (v := ?_) (a' := ?_) rfl rfl rfl (fun _ _ _ h => h) (Or.inl ⟨by rfl, ?_⟩) ?_ ?_
      rotate_left
      · intro w' ⟨h0, h1, h2⟩
        go_simp
        with_reducible rfl
      rotate_left
      · simp only [Act.put, List.setIfInBounds_toArray, List.set_cons_zero, List.set_cons_succ, Go.Proofs.YtoafbpbnlmcklaaW.PrintLast.i64_w, Go.Proofs.YtoafbpbnlmcklaaW.PrintLast.i32_w]
        rfl
      refine held_read (i := 14) (N := (some 23)) (v := ?_) (a' := ?_) rfl rfl rfl (fun _ _ _ h => h) (Or.inl ⟨by rfl, ?_⟩) ?_ ?_
      rotate_left
      · intro w' ⟨h0, h1, h2⟩
        go_simp
        with_reducible rfl
      rotate_left
      · simp only [Act.put, List.setIfInBounds_toArray, List.set_cons_zero, List.set_cons_succ, Go.Proofs.YtoafbpbnlmcklaaW.PrintLast.i64_w, Go.Proofs.YtoafbpbnlmcklaaW.PrintLast.i32_w]
        rfl
      refine held_read (i := 15) (N := (some 24)) (v := ?_) (a' := ?_) rfl rfl rfl (fun _ _ _ h => h) (Or.inl ⟨by rfl, ?_⟩) ?_ ?_
      rotate_left
      · intro w' ⟨h0, h1, h2⟩
        go_simp
        with_reducible rfl
      rotate_left
      · simp only [Act.put, List.setIfInBounds_toArray, List.set_cons_zero, List.set_cons_succ, Go.Proofs.YtoafbpbnlmcklaaW.PrintLast.i64_w, Go.Proofs.YtoafbpbnlmcklaaW.PrintLast.i32_w]
        rfl
      refine held_read (i := 16) (N := (some 25)) (v := ?_) (a' := ?_) rfl rfl rfl (fun _ _ _ h => h) (Or.inl ⟨by rfl, ?_⟩) ?_ ?_
      rotate_left
      · intro w' ⟨h0, h1, h2⟩
        go_simp
        with_reducible rfl
      rotate_left
      · simp only [Act.put, List.setIfInBounds_toArray, List.set_cons_zero, List.set_cons_succ, Go.Proofs.YtoafbpbnlmcklaaW.PrintLast.i64_w, Go.Proofs.YtoafbpbnlmcklaaW.PrintLast.i32_w]
        rfl
      refine held_run (i := 5) (N := (some 14)) rfl rfl rfl (fun K hK => ?_)
      refine Kd.R_make_step (Kd.int .u8) (w0 := wr) wr.heap.size 5 (by rfl) (N := 14) rfl 28 _ _ rfl jI rfl rfl Try.underlying28 (.int .u8 0) 1 info5 rfl (by decide) (by omega) 0 (ok := fun _ => True) (okp := fun _ => True) rfl (fun _ hk => hk) trivial (by have := HJI.out; omega) (by have := HJI.out; have := HLT.out; omega) (below_drew (Below.refl _ _)) (Nat.le_refl _) ?_
      intro v5 w5 ho5 hb5 hg5 hn5
      rw [show jI.toNat = j by have := HJI.out; omega] at ho5
      have HB5 := Aside0.mk (show Below wr.heap.size wr w5 from hb5)
      obtain ⟨A5, c5, e5⟩ := Kd.R_slice ho5
      have HC5 := Aside0.mk (Kd.R_reads' (by rw [e5] at ho5; exact ho5))
      clear ho5 hb5 hg5 hn5
      refine hK.out _ _ ⟨(blk_cell (blk_below HWr.out.blk HB5.out) 2).trans rfl, (blk_cell (blk_below HWr.out.blk HB5.out) 0).trans rfl, (blk_cell (blk_below HDr.out.blk HB5.out) 0).trans rfl⟩ ?_
      clear hK K
      rw [e5]
      refine held_norm (a' := ?_) ?_ ?_
      rotate_left
      · simp only [Act.put, List.setIfInBounds_toArray, List.set_cons_zero, List.set_cons_succ, Go.Proofs.YtoafbpbnlmcklaaW.PrintLast.i64_w, Go.Proofs.YtoafbpbnlmcklaaW.PrintLast.i32_w]
        rfl
      refine held_run (i := 6) (N := (some 15)) rfl rfl rfl (fun K hK => ?_)
      refine Go.Proofs.YtoafbpbnlmcklaaW.PrintLast.goes_ Try.func41 (by kernel_rfl) rfl #[.slice A5 (List.replicate j (0 : Int)).length c5] (by rfl) rfl rfl (by first | done | rfl | (simp only [List.map_toArray, List.map_cons, List.map_nil]; first | done | rfl)) ?_
      refine (colloquyref20_sectors.calls ks A5 c5 (List.replicate j 0) (partsF (List.replicate j 0)) w5 HC5.out.2.2 HC5.out.2.1 HKS.out).mono ?_
      rintro x w6 ⟨v6, rfl, hs6, hb6⟩
      refine ⟨_, rfl, ?_⟩
      have HB6 := Aside0.mk (below_then HB5.out HB5.out.size hb6)
      obtain ⟨A6, c6, e6⟩ := Kd.R_slice (Kd.S_R hs6)
      rw [partsF_len, ← HPn.out] at e6
      clear hs6 hb6
      refine hK.out _ _ ⟨(blk_cell (blk_below HWr.out.blk HB6.out) 2).trans rfl, (blk_cell (blk_below HWr.out.blk HB6.out) 0).trans rfl, (blk_cell (blk_below HDr.out.blk HB6.out) 0).trans rfl⟩ ?_
      clear hK K
      rw [e6]
      refine held_norm (a' := ?_) ?_ ?_
      rotate_left
      · simp only [Act.put, List.setIfInBounds_toArray, List.set_cons_zero, List.set_cons_succ, Go.Proofs.YtoafbpbnlmcklaaW.PrintLast.i64_w, Go.Proofs.YtoafbpbnlmcklaaW.PrintLast.i32_w]
        rfl
      refine held_run (i := 7) (N := (some 16)) rfl rfl rfl (fun K hK => ?_)
      go_simp
      refine hK.out _ _ ⟨(blk_cell (blk_below HWr.out.blk HB6.out) 2).trans rfl, (blk_cell (blk_below HWr.out.blk HB6.out) 0).trans rfl, (blk_cell (blk_below HDr.out.blk HB6.out) 0).trans rfl⟩ ?_
      clear hK K
      refine held_run (i := 8) (N := (some 17)) rfl rfl rfl (fun K hK => ?_)
      go_simp
      refine hK.out _ _ ⟨(blk_cell (blk_below HWr.out.blk HB6.out) 2).trans rfl, (blk_cell (blk_below HWr.out.blk HB6.out) 0).trans rfl, (blk_cell (blk_below HDr.out.blk HB6.out) 0).trans rfl⟩ ?_
      clear hK K
      have s1 : IntKind.i64.wrap ((u : Int) + (p : Int)) = (u : Int) + (p : Int) := by rw [IntKind.wrap_i64]; have := HU.out; have := HM.out; have := HPl.out; omega
      obtain ⟨sI, hsI⟩ : ∃ sI : Int, sI = (u : Int) + (p : Int) := ⟨_, rfl⟩
      have HSI := Aside0.mk hsI
      replace s1 := s1.trans hsI.symm
      rw [s1]
      have HBz := Aside0.mk (show Below w.heap.size w w6 from below_then HB.out HB.out.size HB6.out)
      clear hsI s1
      refine held_run (i := 17) (N := (some 26)) rfl rfl rfl (fun K hK => ?_)
      go_simp
      refine hK.out _ _ ⟨(blk_cell (blk_below HWr.out.blk HB6.out) 2).trans rfl, (blk_cell (blk_below HWr.out.blk HB6.out) 0).trans rfl, (blk_cell (blk_below HDr.out.blk HB6.out) 0).trans rfl⟩ ?_
      clear hK K
      refine held_done ?_
      have hj1 : wrap64 (jI + 1) = ((j + 1 : Nat) : Int) := by unfold wrap64; have := HJI.out; have := HLT.out; omega
      by_cases cf : u + p ≤ m
      · have p6 : decide (sI ≤ (m : Int)) = true := decide_eq_true (by have := HSI.out; omega)
        have HY := Aside0.mk (HBe.out.yes (by rw [← HPn.out]; exact cf))
        clear cf
        rw [p6]
        go_wp2_with fail
        go_roundg k1
        case measure => omega
        case rel => exact ⟨j + 1, (j : Int), (by rw [← HJI.out]), congrArg (Value.int .i64) (by omega), ⟨by have := HJ.out; omega⟩, HY, HBz⟩
      have p6 : decide (sI ≤ (m : Int)) = false := decide_eq_false (by have := HSI.out; omega)
      have HY := Aside0.mk (HBe.out.no (by rw [← HPn.out]; exact cf))
      clear cf
      rw [p6]
      go_wp2_with fail
      go_roundg k1
      case measure => omega
      case rel => exact ⟨j + 1, best, rfl, congrArg (Value.int .i64) (by omega), ⟨by have := HJ.out; omega⟩, HY, HBz⟩
    · obtain rfl : j = 1025 := by have := HJ.out; omega
      clear hlt
      have HE := Aside0.mk (HBe.out.room HU.out)
      go_wp2
      go_ret
      exact ⟨by rw [← HE.out]; rfl, HB.out⟩
end Go.Proofs.Ytoafbpbnlmcklaa.PAll

namespace Go.Proofs.Ytoafbpbnlmcklaa.PAll
open Go.RowKit Go.Proofs.YtoafbpbnlmcklaaW.PrintWords Go.Proofs.YtoafbpbnlmcklaaW.PrintLast Go.Proofs.YtoafbpbnlmcklaaW.PrintMore Go.Proofs.Ytoafbpbnlmcklaa.Pure
set_option linter.unusedVariables false
set_option linter.unusedSimpArgs false
theorem recordF_few {x b : List Int} (h : recordF x = some b) : b.length ≤ 1024 := by
  unfold recordF at h
  split at h
  · rename_i c
    rw [← Option.some.inj h, List.length_take]
    have := c.2.1
    omega
  · cases h
theorem scanF_few : ∀ (T : List (List Int)) (i : Nat) (x : List Int) (l : List (List Int)) (u : Nat), (∀ b ∈ l, b.length ≤ 1024) → l.length ≤ u → u ≤ i → (∀ b ∈ (scanF T i x l u).1, b.length ≤ 1024) ∧ (scanF T i x l u).1.length ≤ (scanF T i x l u).2
  | [], i, x, l, u, h1, h2, h3 => ⟨h1, h2⟩
  | s :: T, i, x, l, u, h1, h2, h3 => by
    rw [scanF]
    split
    · exact scanF_few T (i + 1) _ l u h1 h2 (by omega)
    · split
      · split
        · rename_i b hb
          refine scanF_few T (i + 1) _ _ (i + 1) (fun c hc => ?_) (by rw [List.length_append, List.length_singleton]; omega) (Nat.le_refl _)
          rcases List.mem_append.1 hc with hc | hc
          · exact h1 c hc
          · rw [List.mem_singleton] at hc; subst hc; exact recordF_few hb
        · exact ⟨h1, h2⟩
      · exact ⟨h1, h2⟩
theorem openF_few (T : List (List Int)) : (∀ b ∈ (openF T).1, b.length ≤ 1024) ∧ (openF T).1.length ≤ (openF T).2 := scanF_few T 0 [] [] 0 (by simp) (Nat.le_refl _) (Nat.le_refl _)
theorem applyW_bs : ∀ (W : List (Int × List Int)) (S : List (List Int)), (∀ s ∈ S, Bs s) → (∀ p ∈ W, Bs p.2) → ∀ s ∈ applyW S W, Bs s
  | [], S, h1, h2 => h1
  | p :: W, S, h1, h2 => by
    show ∀ s ∈ applyW (S.set p.1.toNat p.2) W, Bs s
    refine applyW_bs W _ (fun s hs => ?_) (fun q hq => h2 q (by simp [hq]))
    rcases List.mem_or_eq_of_mem_set hs with h | h
    · exact h1 s h
    · rw [h]; exact h2 p (by simp)
theorem cleanF_mem {T : List (List Int)} {u : Nat} {s : List Int} (h : s ∈ cleanF T u) : s ∈ T ∨ s = zeroS := by
  unfold cleanF at h
  rcases List.mem_append.1 h with h | h
  · exact .inl (List.mem_of_mem_take h)
  · exact .inr (List.eq_of_mem_replicate h)
theorem cleanF_len {T : List (List Int)} {u : Nat} (h : u ≤ T.length) : (cleanF T u).length = T.length := by
  unfold cleanF
  rw [List.length_append, List.length_take, List.length_replicate]
  omega
theorem Parts.clean {m q u : Nat} {S : List (List Int)} {W : List (Int × List Int)} (h : Parts m q S W) (hu : u ≤ m) : Parts m 0 (cleanF (applyW S W) u) [] :=
  ⟨by rw [cleanF_len (by rw [applyW_len, h.len]; exact hu), applyW_len, h.len], fun s hs => by
    rcases cleanF_mem hs with h1 | h1
    · exact applyW_16 W S (fun p hp => (h.val p hp).2.2) h.s16 s h1
    · rw [h1]; rfl, by simp, by simp⟩
/-- A disk, and a log over it. -/
structure Loose (B D gS m q Wb u : Nat) (A : Option Addr) (cW : Nat) (vL : Value) (S : List (List Int)) (W : List (Int × List Int)) (L : List (List Int)) (w : World) : Prop where
  d : DiskAt B D gS A cW S W w
  l : WalAt 66 B Wb D vL L u w
  p : Parts m q S W
  le : u ≤ m
  few : ∀ b ∈ L, b.length ≤ 1024
  len : L.length ≤ u
  bs : ∀ s ∈ S, Bs s
  bw : ∀ p ∈ W, Bs p.2
/-- Its blocks. -/
def PL (D gS : Nat) (A : Option Addr) (Wb : Nat) (vL : Value) (k : Nat) : Prop := InD D gS A k ∨ InW Wb vL k
theorem Loose.below {B D gS m q Wb u cW : Nat} {A : Option Addr} {vL : Value} {S : List (List Int)} {W : List (Int × List Int)} {L : List (List Int)} {w w' : World} (h : Loose B D gS m q Wb u A cW vL S W L w) (hb : Below w.heap.size w w') : Loose B D gS m q Wb u A cW vL S W L w' := ⟨h.d.below hb, h.l.below hb, h.p, h.le, h.few, h.len, h.bs, h.bw⟩
theorem Loose.size {B D gS m q Wb u cW : Nat} {A : Option Addr} {vL : Value} {S : List (List Int)} {W : List (Int × List Int)} {L : List (List Int)} {w : World} (h : Loose B D gS m q Wb u A cW vL S W L w) : B ≤ w.heap.size := h.d.base.2.2.2
theorem Loose.own {B D gS m q Wb u cW : Nat} {A : Option Addr} {vL : Value} {S : List (List Int)} {W : List (Int × List Int)} {L : List (List Int)} {w : World} (h : Loose B D gS m q Wb u A cW vL S W L w) (k : Nat) (hk : PL D gS A Wb vL k) : B ≤ k ∧ ∃ cs t, (t = 64 ∨ t = 74 ∨ t = 76 ∨ t = 66 ∨ t = 28) ∧ w.heap[k]? = some (Obj.cells cs t (0, 0)) := by
  rcases hk with hk | hk
  · obtain ⟨h1, cs, t, ht, hh⟩ := h.d.inD hk
    refine ⟨h1, cs, t, ?_, hh⟩
    rcases ht with rfl | rfl | rfl
    · exact .inl rfl
    · exact .inr (.inl rfl)
    · exact .inr (.inr (.inl rfl))
  · obtain ⟨h1, cs, t, ht, hh⟩ := h.l.inW hk
    refine ⟨h1, cs, t, ?_, hh⟩
    rcases ht with rfl | rfl
    · exact .inr (.inr (.inr (.inl rfl)))
    · exact .inr (.inr (.inr (.inr rfl)))
theorem Loose.lt {B D gS m q Wb u cW : Nat} {A : Option Addr} {vL : Value} {S : List (List Int)} {W : List (Int × List Int)} {L : List (List Int)} {w : World} (h : Loose B D gS m q Wb u A cW vL S W L w) {k : Nat} (hk : PL D gS A Wb vL k) : k < w.heap.size := by
  obtain ⟨_, cs, t, _, hh⟩ := h.own k hk
  exact blk_lt hh
theorem Loose.ok5 {B D gS m q Wb u cW : Nat} {A : Option Addr} {vL : Value} {S : List (List Int)} {W : List (Int × List Int)} {L : List (List Int)} {w : World} (h : Loose B D gS m q Wb u A cW vL S W L w) (k : Nat) (cells : Array Value) (hc : w.heap[k]? = some (Obj.cells cells 5 (0, 0))) : ¬ PL D gS A Wb vL k := fun hi => by
  obtain ⟨_, cs, t, ht, hh⟩ := h.own k hi
  have := blk_type hc hh
  rcases ht with rfl | rfl | rfl | rfl | rfl <;> exact absurd this (by decide)
theorem Loose.okB {B D gS m q Wb u cW : Nat} {A : Option Addr} {vL : Value} {S : List (List Int)} {W : List (Int × List Int)} {L : List (List Int)} {w : World} (h : Loose B D gS m q Wb u A cW vL S W L w) (k : Nat) (hk : k < B) : ¬ InD D gS A k ∧ ¬ InW Wb vL k :=
  ⟨fun h1 => by have := (h.own k (.inl h1)).1; omega, fun h1 => by have := (h.own k (.inr h1)).1; omega⟩
theorem Loose.bel {B D gS m q Wb u cW : Nat} {A : Option Addr} {vL : Value} {S : List (List Int)} {W : List (Int × List Int)} {L : List (List Int)} {w0 w w' : World} {B0 : Nat} (h : Loose B D gS m q Wb u A cW vL S W L w) (ht : TouchP (PL D gS A Wb vL) w w') (hb : Below B0 w0 w) (hB : B0 ≤ B) : Below B0 w0 w' :=
  ht.bel hb (Nat.le_trans hB h.size) (fun k hk => Nat.le_trans hB (h.own k hk).1)
/-- What touches none of its blocks leaves it. -/
theorem Loose.apart {B D gS m q Wb u cW : Nat} {A : Option Addr} {vL : Value} {S : List (List Int)} {W : List (Int × List Int)} {L : List (List Int)} {w w' : World} {Q : Nat → Prop} (h : Loose B D gS m q Wb u A cW vL S W L w) (ht : TouchP Q w w') (hap : ∀ k, PL D gS A Wb vL k → ¬ Q k) (h5 : ∀ (k : Nat) (cells : Array Value), w.heap[k]? = some (Obj.cells cells 5 (0, 0)) → ¬ Q k) : Loose B D gS m q Wb u A cW vL S W L w' :=
  ⟨h.d.move (fun k hk => ht.block k (h.lt (.inl hk)) (hap k (.inl hk))), h.l.touch ht (fun k hk => hap k (.inr hk)) (fun k cells hq hc => h5 k cells hc hq), h.p, h.le, h.few, h.len, h.bs, h.bw⟩
theorem loose_append (B D gS m q Wb u cW : Nat) (A : Option Addr) (vL : Value) (S : List (List Int)) (W : List (Int × List Int)) (L : List (List Int)) (b : List Int) (Ab : Option Addr) (n cb : Nat) (w : World) (okb : Nat → Prop) (h : Loose B D gS m q Wb u A cW vL S W L w) (hm : m ≤ 512) (hq : q ≤ 900000)
    (hb : Kd.F (Kd.int .u8) w okb Ab n b) (hok : ∀ k, okb k → ¬ InD D gS A k ∧ ¬ InW Wb vL k) (hcb : n ≤ cb) (hbs : Bs b) :
    Calls Try.prog 12 #[.pointer (some ⟨Wb, 0, none⟩), .slice Ab n cb] w fun e w' => e = .returned (.int .i64 (appE m u b)) ∧ ∃ (A' : Option Addr) (cW' : Nat) (vL' : Value), Loose B D gS m (q + 2000) Wb (appU m u b) A' cW' vL' S (appW m u W b) (appL m u L b) w' ∧ TouchP (PL D gS A Wb vL) w w' ∧ (∀ k, PL D gS A' Wb vL' k → PL D gS A Wb vL k ∨ w.heap.size ≤ k) := by
  refine (append_walk B B D gS cW m q Wb u A Ab vL S W L b n cb w okb h.d h.l h.p hm (by omega) h.le (by have := h.len; have := h.le; omega) hb hok hcb).mono ?_
  rintro e w' ⟨rfl, ⟨A', cW', vL', h1, h2, h3, h4, h5⟩⟩
  refine ⟨rfl, A', cW', vL', ⟨h1, h2, ?_, ?_, ?_, ?_, h.bs, ?_⟩, h3, fun k hk => ?_⟩
  · unfold appW
    split
    · rename_i c
      rw [fitsF, Bool.and_eq_true, decide_eq_true_eq, decide_eq_true_eq] at c
      have hn : nParts b ≤ 2000 := by rw [nParts_eq]; have := sz_small c.1; omega
      exact (h.p.parts (Nat.le_refl _) c.2).mono (by omega)
    · exact h.p.mono (by omega)
  · unfold appU
    split
    · rename_i c
      rw [fitsF, Bool.and_eq_true, decide_eq_true_eq, decide_eq_true_eq] at c
      exact c.2
    · exact h.le
  · unfold appL
    split
    · rename_i c
      rw [fitsF, Bool.and_eq_true, decide_eq_true_eq, decide_eq_true_eq] at c
      intro x hx
      rcases List.mem_append.1 hx with hx | hx
      · exact h.few x hx
      · rw [List.mem_singleton] at hx; subst hx; exact c.1
    · exact h.few
  · unfold appL appU
    split
    · rw [List.length_append, List.length_singleton]; have := h.len; have := nParts_pos b; omega
    · exact h.len
  · unfold appW
    split
    · intro p hp
      rcases List.mem_append.1 hp with hp | hp
      · exact h.bw p hp
      · rw [partsW, List.mem_map] at hp
        obtain ⟨i, _, rfl⟩ := hp
        exact partF_bs hbs i
    · exact h.bw
  · rcases hk with hk | hk
    · rcases h4 k hk with h6 | h6
      · exact .inl (.inl h6)
      · exact .inr h6
    · rcases h5 k hk with h6 | h6
      · exact .inl (.inr h6)
      · exact .inr h6
theorem loose_sync (B D gS m q Wb u cW : Nat) (A : Option Addr) (vL : Value) (S : List (List Int)) (W : List (Int × List Int)) (L : List (List Int)) (w : World) (h : Loose B D gS m q Wb u A cW vL S W L w) (hq : q ≤ 900000) :
    Calls Try.prog 25 #[.pointer (some ⟨D, 0, none⟩)] w fun x w' => x = .returned (.tuple #[]) ∧ Loose B D gS m (q + 1) Wb u A cW vL (applyW S W) [] L w' ∧ TouchP (PL D gS A Wb vL) w w' := by
  refine (sync_tot B D gS cW m q A S W w h.d h.p (by omega)).mono ?_
  rintro x w' ⟨rfl, h1, h2⟩
  exact ⟨rfl, ⟨h1, h.l.disk (by decide) h.d h2.toP, h.p.sync, h.le, h.few, h.len, applyW_bs W S h.bs h.bw, by simp⟩, h2.toP.mono (fun k _ hk => .inl hk)⟩
theorem loose_crash (B D gS m q Wb u cW : Nat) (A : Option Addr) (vL : Value) (S : List (List Int)) (W : List (Int × List Int)) (L : List (List Int)) (Ak : Option Addr) (ck : Nat) (keep : List Bool) (torn bytes : Int) (w : World) (h : Loose B D gS m q Wb u A cW vL S W L w) (hq : q ≤ 900000) (hk : Kd.F Kd.bool w (fun k => k ≠ gS) Ak keep.length keep) :
    Calls Try.prog 26 #[.pointer (some ⟨D, 0, none⟩), .slice Ak keep.length ck, .int .i64 torn, .int .i64 bytes] w fun x w' => x = .returned (.tuple #[]) ∧ Loose B D gS m (q + 1) Wb u A cW vL (crashW keep torn (clampB bytes) S W W.length) [] L w' ∧ TouchP (PL D gS A Wb vL) w w' := by
  refine (crash_tot B D gS cW m q A Ak ck S W keep torn bytes w h.d h.p (by omega) hk).mono ?_
  rintro x w' ⟨rfl, h1, h2⟩
  exact ⟨rfl, ⟨h1, h.l.disk (by decide) h.d h2.toP, h.p.crash keep torn (clampB_le bytes), h.le, h.few, h.len, crashW_bs h.bs h.bw _, by simp⟩, h2.toP.mono (fun k _ hk => .inl hk)⟩
theorem loose_open0 (B D gS m q cW : Nat) (A : Option Addr) (S : List (List Int)) (W : List (Int × List Int)) (w : World) (h : DiskAt B D gS A cW S W w) (hp : Parts m q S W) (hbs : ∀ s ∈ S, Bs s) (hbw : ∀ p ∈ W, Bs p.2) (hm : m ≤ 512) (hq : q ≤ 900000) :
    Calls Try.prog 11 #[.pointer (some ⟨D, 0, none⟩)] w fun e w' => ∃ (Wb : Nat) (vL : Value) (A' : Option Addr) (cW' : Nat), e = .returned (.pointer (some ⟨Wb, 0, none⟩)) ∧ Loose B D gS m 0 Wb (openF (applyW S W)).2 A' cW' vL (cleanF (applyW S W) (openF (applyW S W)).2) [] (openF (applyW S W)).1 w' ∧ TouchP (InD D gS A) w w' ∧ (∀ k, PL D gS A' Wb vL k → InD D gS A k ∨ w.heap.size ≤ k) := by
  have hab := applyW_bs W S hbs hbw
  have hTl : (applyW S W).length = m := by rw [applyW_len, hp.len]
  have hle : (openF (applyW S W)).2 ≤ m := by have := openF_le (applyW S W); omega
  refine (open_walk B D gS cW m q A S W w h hp hm (by omega) hab).mono ?_
  rintro e w' ⟨Wb, vL, A', cW', rfl, h1, h2, h3, h4⟩
  obtain ⟨f1, f2⟩ := openF_few (applyW S W)
  refine ⟨Wb, vL, A', cW', rfl, ⟨h1, h2.lower h.base.2.2.2, hp.clean hle, hle, f1, f2, fun s hs => ?_, by simp⟩, h3, fun k hk => ?_⟩
  · rcases cleanF_mem hs with g | g
    · exact hab s g
    · rw [g]; exact zeroS_bs
  · rcases hk with hk | hk
    · exact h4 k hk
    · exact .inr (h2.inW hk).1
/-- The reference's disk, and its log. -/
structure RLoose (B D m Wb u : Nat) (AS : Option Addr) (cS : Nat) (vW vL : Value) (S : List (List Int)) (W : List (Int × List Int)) (L : List (List Int)) (w : World) : Prop where
  d : RefAt B D (.slice AS m cS) vW S W w
  l : WalAt 46 B Wb D vL L u w
  ap : ∀ k, vL.ownBlock = some k → (Value.slice AS m cS).ownBlock ≠ some k
def PR (D m : Nat) (AS : Option Addr) (cS : Nat) (vW : Value) (Wb : Nat) (vL : Value) (k : Nat) : Prop := InR D (.slice AS m cS) vW k ∨ InW Wb vL k
theorem RLoose.below {B D m Wb u cS : Nat} {AS : Option Addr} {vW vL : Value} {S : List (List Int)} {W : List (Int × List Int)} {L : List (List Int)} {w w' : World} (h : RLoose B D m Wb u AS cS vW vL S W L w) (hb : Below w.heap.size w w') : RLoose B D m Wb u AS cS vW vL S W L w' := ⟨h.d.below hb, h.l.below hb, h.ap⟩
theorem RLoose.own {B D m Wb u cS : Nat} {AS : Option Addr} {vW vL : Value} {S : List (List Int)} {W : List (Int × List Int)} {L : List (List Int)} {w : World} (h : RLoose B D m Wb u AS cS vW vL S W L w) (k : Nat) (hk : PR D m AS cS vW Wb vL k) : B ≤ k ∧ ∃ cs t, t ≠ 5 ∧ w.heap[k]? = some (Obj.cells cs t (0, 0)) := by
  rcases hk with hk | hk
  · obtain ⟨h1, cs, t, ht, hh⟩ := h.d.inR hk
    exact ⟨h1, cs, t, by rcases ht with rfl | rfl | rfl <;> decide, hh⟩
  · obtain ⟨h1, cs, t, ht, hh⟩ := h.l.inW hk
    exact ⟨h1, cs, t, by rcases ht with rfl | rfl <;> decide, hh⟩
theorem RLoose.lt {B D m Wb u cS : Nat} {AS : Option Addr} {vW vL : Value} {S : List (List Int)} {W : List (Int × List Int)} {L : List (List Int)} {w : World} (h : RLoose B D m Wb u AS cS vW vL S W L w) {k : Nat} (hk : PR D m AS cS vW Wb vL k) : k < w.heap.size := by
  obtain ⟨_, cs, t, _, hh⟩ := h.own k hk
  exact blk_lt hh
theorem RLoose.ok5 {B D m Wb u cS : Nat} {AS : Option Addr} {vW vL : Value} {S : List (List Int)} {W : List (Int × List Int)} {L : List (List Int)} {w : World} (h : RLoose B D m Wb u AS cS vW vL S W L w) (k : Nat) (cells : Array Value) (hc : w.heap[k]? = some (Obj.cells cells 5 (0, 0))) : ¬ PR D m AS cS vW Wb vL k := fun hi => by
  obtain ⟨_, cs, t, ht, hh⟩ := h.own k hi
  exact ht (blk_type hh hc)
theorem RLoose.okB {B D m Wb u cS : Nat} {AS : Option Addr} {vW vL : Value} {S : List (List Int)} {W : List (Int × List Int)} {L : List (List Int)} {w : World} (h : RLoose B D m Wb u AS cS vW vL S W L w) (k : Nat) (hk : k < B) : ¬ InR D (.slice AS m cS) vW k ∧ ¬ InW Wb vL k :=
  ⟨fun h1 => by have := (h.own k (.inl h1)).1; omega, fun h1 => by have := (h.own k (.inr h1)).1; omega⟩
theorem RLoose.bel {B D m Wb u cS : Nat} {AS : Option Addr} {vW vL : Value} {S : List (List Int)} {W : List (Int × List Int)} {L : List (List Int)} {w0 w w' : World} {B0 : Nat} (h : RLoose B D m Wb u AS cS vW vL S W L w) (ht : TouchP (PR D m AS cS vW Wb vL) w w') (hb : Below B0 w0 w) (hB : B0 ≤ B) : Below B0 w0 w' :=
  ht.bel hb (by have := h.d.le; have := blk_lt h.d.blk; omega) (fun k hk => Nat.le_trans hB (h.own k hk).1)
theorem RLoose.apart {B D m Wb u cS : Nat} {AS : Option Addr} {vW vL : Value} {S : List (List Int)} {W : List (Int × List Int)} {L : List (List Int)} {w w' : World} {Q : Nat → Prop} (h : RLoose B D m Wb u AS cS vW vL S W L w) (ht : TouchP Q w w') (hap : ∀ k, PR D m AS cS vW Wb vL k → ¬ Q k) (h5 : ∀ (k : Nat) (cells : Array Value), w.heap[k]? = some (Obj.cells cells 5 (0, 0)) → ¬ Q k) : RLoose B D m Wb u AS cS vW vL S W L w' :=
  ⟨h.d.moveF (fun k hk => ht.block k (h.lt (.inl hk)) (hap k (.inl hk))) (fun k cells hc => ht.block k (blk_lt hc) (h5 k cells hc)), h.l.touch ht (fun k hk => hap k (.inr hk)) (fun k cells hq hc => h5 k cells hc hq), h.ap⟩
theorem rl_append (B D m q Wb u cS : Nat) (AS Ab : Option Addr) (vW vL : Value) (S : List (List Int)) (W : List (Int × List Int)) (L : List (List Int)) (b : List Int) (n cb : Nat) (w : World) (okb : Nat → Prop) (h : RLoose B D m Wb u AS cS vW vL S W L w) (hp : Parts m q S W) (hu : u ≤ m) (hL : L.length ≤ u) (hm : m ≤ 512) (hq : q ≤ 900000)
    (hb : Kd.F (Kd.int .u8) w okb Ab n b) (hok : ∀ k, okb k → ¬ InR D (.slice AS m cS) vW k ∧ ¬ InW Wb vL k) (hcb : n ≤ cb) :
    Calls Try.prog 28 #[.pointer (some ⟨Wb, 0, none⟩), .slice Ab n cb] w fun e w' => e = .returned (.int .i64 (appE m u b)) ∧ ∃ (vW' vL' : Value), RLoose B D m Wb (appU m u b) AS cS vW' vL' S (appW m u W b) (appL m u L b) w' ∧ TouchP (PR D m AS cS vW Wb vL) w w' ∧ (∀ k, PR D m AS cS vW' Wb vL' k → PR D m AS cS vW Wb vL k ∨ w.heap.size ≤ k) := by
  refine (refappend_walk B B D m q Wb u AS cS Ab vW vL S W L b n cb w okb h.d h.l h.ap hp hm (by omega) hu (by omega) hb hok hcb).mono ?_
  rintro e w' ⟨rfl, ⟨vW', vL', h1, h2, h3, h4, h5, h6⟩⟩
  refine ⟨rfl, vW', vL', ⟨h1, h2, h3⟩, h4, fun k hk => ?_⟩
  rcases hk with hk | hk
  · rcases h5 k hk with g | g
    · exact .inl (.inl g)
    · exact .inr g
  · rcases h6 k hk with g | g
    · exact .inl (.inr g)
    · exact .inr g
theorem InR_nil {D m cS : Nat} {AS : Option Addr} {vW : Value} {k : Nat} (h : InR D (.slice AS m cS) (.slice none 0 0) k) : InR D (.slice AS m cS) vW k := by
  rcases h with h | h | h
  · exact .inl h
  · exact .inr (.inl h)
  · simp [Value.ownBlock] at h
theorem rl_sync (B D m q Wb u cS : Nat) (AS : Option Addr) (vW vL : Value) (S : List (List Int)) (W : List (Int × List Int)) (L : List (List Int)) (w : World) (h : RLoose B D m Wb u AS cS vW vL S W L w) (hp : Parts m q S W) (hq : q ≤ 900000) :
    Calls Try.prog 29 #[.pointer (some ⟨D, 0, none⟩)] w fun x w' => x = .returned (.tuple #[]) ∧ RLoose B D m Wb u AS cS (.slice none 0 0) vL (applyW S W) [] L w' ∧ TouchP (PR D m AS cS vW Wb vL) w w' := by
  refine (refsync_walk B D m q (.slice AS m cS) vW S W w h.d hp (by omega)).mono ?_
  rintro x w' ⟨rfl, h1, h2⟩
  exact ⟨rfl, ⟨h1, h.l.rtouch h.d h.ap h2, h.ap⟩, h2.toP.mono (fun k _ hk => .inl hk)⟩
theorem rl_crash (B D m q Wb u cS : Nat) (AS : Option Addr) (vW vL : Value) (S : List (List Int)) (W : List (Int × List Int)) (L : List (List Int)) (Ak : Option Addr) (ck : Nat) (keep : List Bool) (torn bytes : Int) (w : World) (h : RLoose B D m Wb u AS cS vW vL S W L w) (hp : Parts m q S W) (hq : q ≤ 900000) (hk : Kd.F Kd.bool w (fun k => ¬ InR D (.slice AS m cS) vW k) Ak keep.length keep) :
    Calls Try.prog 30 #[.pointer (some ⟨D, 0, none⟩), .slice Ak keep.length ck, .int .i64 torn, .int .i64 bytes] w fun x w' => x = .returned (.tuple #[]) ∧ RLoose B D m Wb u AS cS (.slice none 0 0) vL (crashW keep torn (clampB bytes) S W W.length) [] L w' ∧ TouchP (PR D m AS cS vW Wb vL) w w' := by
  refine (refcrash_walk B D m q (.slice AS m cS) vW S W Ak ck keep torn bytes w h.d hp (by omega) hk).mono ?_
  rintro x w' ⟨rfl, h1, h2⟩
  exact ⟨rfl, ⟨h1, h.l.rtouch h.d h.ap h2, h.ap⟩, h2.toP.mono (fun k _ hk => .inl hk)⟩
theorem rl_open (B D m q cS : Nat) (AS : Option Addr) (vW : Value) (S : List (List Int)) (W : List (Int × List Int)) (w : World) (h : RefAt B D (.slice AS m cS) vW S W w) (hp : Parts m q S W) (hbs : ∀ s ∈ S, Bs s) (hbw : ∀ p ∈ W, Bs p.2) (hm : m ≤ 512) (hq : q ≤ 900000) :
    Calls Try.prog 20 #[.pointer (some ⟨D, 0, none⟩)] w fun e w' => ∃ (Wb : Nat) (vL : Value), e = .returned (.pointer (some ⟨Wb, 0, none⟩)) ∧ RLoose B D m Wb (openF (applyW S W)).2 AS cS (.slice none 0 0) vL (cleanF (applyW S W) (openF (applyW S W)).2) [] (openF (applyW S W)).1 w' ∧ TouchP (InR D (.slice AS m cS) vW) w w' ∧ (∀ k, PR D m AS cS (.slice none 0 0) Wb vL k → InR D (.slice AS m cS) vW k ∨ w.heap.size ≤ k) := by
  have hab := applyW_bs W S hbs hbw
  refine (refopen_walk B D m q AS cS vW S W w h hp hm hq hab).mono ?_
  rintro e w' ⟨Wb, vL, rfl, h1, h2, h3⟩
  have hsz : B ≤ w.heap.size := by have := h.le; have := blk_lt h.blk; omega
  refine ⟨Wb, vL, rfl, ⟨h1, h2.lower hsz, fun k g1 g2 => ?_⟩, h3, fun k hk => ?_⟩
  · have e1 := (h2.inW (.inr g1)).1
    have e2 := h.lt (k := k) (.inr (.inl g2))
    omega
  · rcases hk with hk | hk
    · exact .inl (InR_nil hk)
    · exact .inr (h2.inW hk).1
end Go.Proofs.Ytoafbpbnlmcklaa.PAll
