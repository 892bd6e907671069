/- Texts merged: WalAppend WalRoom WalLaws WalReal WalAwake WalStart WalTorn. -/
import Derived.Test.YtoafbpbnlmcklaaMWalB
import Derived.Test.YtoafbpbnlmcklaaPAllx2
import Derived.Lib.SlBytesConst
namespace Go.Proofs.Ytoafbpbnlmcklaa.PAll
open Go.RowKit Go.Proofs.YtoafbpbnlmcklaaW.PrintWords Go.Proofs.YtoafbpbnlmcklaaW.PrintLast Go.Proofs.YtoafbpbnlmcklaaW.PrintMore Go.Proofs.Ytoafbpbnlmcklaa.Pure
set_option linter.unusedVariables false
set_option linter.unusedSimpArgs false
/-- The writes of a record. -/
def partsW (u : Nat) (b : List Int) (n : Nat) : List (Int × List Int) := (List.range n).map fun i => (((u + i : Nat) : Int), partF b i)
theorem partsW_len (u : Nat) (b : List Int) (n : Nat) : (partsW u b n).length = n := by rw [partsW, List.length_map, List.length_range]
theorem partsW_succ (u : Nat) (b : List Int) (n : Nat) : partsW u b (n + 1) = partsW u b n ++ [(((u + n : Nat) : Int), partF b n)] := by
  rw [partsW, List.range_succ, List.map_append]; rfl
theorem Parts.parts {m j : Nat} {S : List (List Int)} {W : List (Int × List Int)} (h : Parts m j S W) {u : Nat} {b : List Int} {n : Nat} (hn : n ≤ nParts b) (hu : u + n ≤ m) : Parts m (j + n) S (W ++ partsW u b n) := by
  refine ⟨h.len, h.s16, fun p hp => ?_, ?_⟩
  · rcases List.mem_append.1 hp with hp | hp
    · exact h.val p hp
    · rw [partsW, List.mem_map] at hp
      obtain ⟨i, hi, rfl⟩ := hp
      rw [List.mem_range] at hi
      refine ⟨by simp only; omega, ?_, partF_len (by omega)⟩
      rw [h.len]; simp only; omega
  · rw [List.length_append, partsW_len]
    have := h.few
    omega
/-- What an append answers, and leaves. -/
def fitsF (m u : Nat) (b : List Int) : Bool := decide (b.length ≤ 1024) && decide (u + nParts b ≤ m)
def appE (m u : Nat) (b : List Int) : Int := if b.length ≤ 1024 then (if u + nParts b ≤ m then 0 else 7) else 1
def appW (m u : Nat) (W : List (Int × List Int)) (b : List Int) : List (Int × List Int) := if fitsF m u b = true then W ++ partsW u b (nParts b) else W
def appL (m u : Nat) (L : List (List Int)) (b : List Int) : List (List Int) := if fitsF m u b = true then L ++ [b] else L
def appU (m u : Nat) (b : List Int) : Nat := if fitsF m u b = true then u + nParts b else u
theorem fits_yes {m u : Nat} {b : List Int} (h1 : b.length ≤ 1024) (h2 : u + nParts b ≤ m) : fitsF m u b = true := by rw [fitsF, decide_eq_true h1, decide_eq_true h2]; rfl
theorem fits_no1 {m u : Nat} {b : List Int} (h1 : ¬ b.length ≤ 1024) : ¬ fitsF m u b = true := by rw [fitsF, decide_eq_false h1, Bool.false_and]; decide
theorem fits_no2 {m u : Nat} {b : List Int} (h2 : ¬ u + nParts b ≤ m) : ¬ fitsF m u b = true := by rw [fitsF, decide_eq_false h2, Bool.and_false]; decide
/-- What an append leaves in memory. -/
structure Appended (base baseW Wb D gS m : Nat) (A : Option Addr) (vL : Value) (S : List (List Int)) (W : List (Int × List Int)) (L : List (List Int)) (u : Nat) (b : List Int) (w w' : World) : Prop where
  out : ∃ (A' : Option Addr) (cW' : Nat) (vL' : Value), DiskAt base D gS A' cW' S (appW m u W b) w' ∧ WalAt 66 baseW Wb D vL' (appL m u L b) (appU m u b) w' ∧ TouchP (fun k => InD D gS A k ∨ InW Wb vL k) w w' ∧ (∀ k, InD D gS A' k → InD D gS A k ∨ w.heap.size ≤ k) ∧ (∀ k, InW Wb vL' k → InW Wb vL k ∨ w.heap.size ≤ k)
theorem Appended.same {base baseW Wb D gS m cW u : Nat} {A : Option Addr} {vL : Value} {S : List (List Int)} {W : List (Int × List Int)} {L : List (List Int)} {b : List Int} {w w' : World} (h : DiskAt base D gS A cW S W w) (hw : WalAt 66 baseW Wb D vL L u w) (hb : Below w.heap.size w w') (hn : ¬ fitsF m u b = true) : Appended base baseW Wb D gS m A vL S W L u b w w' := by
  refine ⟨A, cW, vL, ?_, ?_, TouchP.of_below hb, fun k hk => .inl hk, fun k hk => .inl hk⟩
  · rw [appW, if_neg hn]; exact h.below hb
  · rw [appL, if_neg hn, appU, if_neg hn]; exact hw.below hb
set_option maxHeartbeats 1000000 in
set_option maxRecDepth 100000 in
theorem append_long (base baseW D gS cW m Wb u : Nat) (A Ab : Option Addr) (vL : Value) (S : List (List Int)) (W : List (Int × List Int)) (L : List (List Int)) (b : List Int) (n cb : Nat) (w : World) (h : DiskAt base D gS A cW S W w) (hw : WalAt 66 baseW Wb D vL L u w) (hbn : b.length = n) (hn : 1024 < n) :
    Calls Try.prog 12 #[.pointer (some ⟨Wb, 0, none⟩), .slice Ab n cb] w fun e w' => e = .returned (.int .i64 (appE m u b)) ∧ Appended base baseW Wb D gS m A vL S W L u b w w' := by
  have HA := Aside0.mk (Appended.same (b := b) (m := m) h hw (Below.refl _ _) (fits_no1 (by omega)))
  have HE := Aside0.mk (show appE m u b = 1 by rw [appE, if_neg (by omega)])
  have l1 : decide ((n : Int) > 1024) = true := decide_eq_true (by omega)
  have l2 : decide (1024 < n) = true := decide_eq_true hn
  clear h hw hbn hn
  go_enter Try.func12, Try.ntmps12
  go_wp2
  go_ret
  exact ⟨by rw [HE.out]; rfl, HA.out⟩
set_option maxHeartbeats 8000000 in
set_option maxRecDepth 100000 in
theorem append_walk (base baseW D gS cW m q Wb u : Nat) (A Ab : Option Addr) (vL : Value) (S : List (List Int)) (W : List (Int × List Int)) (L : List (List Int)) (b : List Int) (n cb : Nat) (w : World) (okb : Nat → Prop) (h : DiskAt base D gS A cW S W w) (hw : WalAt 66 baseW Wb D vL L u w) (hp : Parts m q S W) (hm : m ≤ 512) (hq : q ≤ 1000000) (hu : u ≤ m) (hL : L.length ≤ 1000000)
    (hb : Kd.F (Kd.int .u8) w okb Ab n b) (hok : ∀ k, okb k → ¬ InD D gS A k ∧ ¬ InW Wb vL k) (hcb : n ≤ cb) :
    Calls Try.prog 12 #[.pointer (some ⟨Wb, 0, none⟩), .slice Ab n cb] w fun e w' => e = .returned (.int .i64 (appE m u b)) ∧ Appended base baseW Wb D gS m A vL S W L u b w w' := by
  have hbn : b.length = n := Kd.F_len hb
  by_cases c1024 : 1024 < n
  · exact append_long base baseW D gS cW m Wb u A Ab vL S W L b n cb w h hw hbn c1024
  have H := Aside0.mk h
  have HW := Aside0.mk hw
  have HP := Aside0.mk hp
  have HM := Aside0.mk hm
  have HQ := Aside0.mk hq
  have HU := Aside0.mk hu
  have HLL := Aside0.mk hL
  have HB := Aside0.mk hb
  have HOK := Aside0.mk hok
  have HCB := Aside0.mk hcb
  have HBN := Aside0.mk hbn
  have HN := Aside0.mk (show n ≤ 1024 by omega)
  have l1 : decide ((n : Int) > 1024) = false := decide_eq_false (by omega)
  have l2 : decide (1024 < n) = false := decide_eq_false c1024
  obtain ⟨AL, cL, eL⟩ := Kd.R_slice hw.rs
  obtain ⟨nL, hnL⟩ : ∃ nL, nL = L.length := ⟨_, rfl⟩
  rw [← hnL] at eL
  subst eL
  have HNL := Aside0.mk hnL
  clear h hw hp hm hq hu hL hb hok hcb hbn c1024 hnL
  go_enter Try.func12, Try.ntmps12
  go_wp2_with fail
  refine (parts_walk b Ab n cb w (Kd.F_now HB.out) HCB.out (by have := HN.out; omega)).mono ?_
  rintro e w1 ⟨v1, rfl, ho1, hb1⟩
  obtain ⟨AP, cP, eP⟩ := Kd.R_slice ho1
  obtain ⟨p, hp⟩ : ∃ p, p = nParts b := ⟨_, rfl⟩
  rw [partsF_len, ← hp] at eP
  subst eP
  have HPn := Aside0.mk hp
  have HPl := Aside0.mk (show p ≤ 1024 by rw [hp, nParts_eq, HBN.out]; have := sz_le8 (n := n) (by have := HN.out; omega); have := HN.out; omega)
  have HPF := Aside0.mk (Kd.F_mono (Kd.F_bound (Kd.R_F (Kd.R_bound ho1))) (fun k hk => (show w.heap.size ≤ k ∧ k < w1.heap.size from ⟨hk.1.2.1, hk.2⟩)))
  have HB1 := Aside0.mk hb1
  have HD1 := Aside0.mk (H.out.below hb1)
  have HW1 := Aside0.mk (HW.out.below hb1)
  have qw0 := blk_cell HW1.out.blk 0
  have qw2 := blk_cell HW1.out.blk 2
  have HDL := Aside0.mk (fun (U : World) (hU : Below w1.heap.size w1 U) => len_walk base D gS cW A S W U (HD1.out.below hU))
  have lu : (u : Int) + (p : Int) ≤ 9223372036854775807 := by have := HU.out; have := HM.out; have := HPl.out; omega
  have HSl := Aside0.mk HP.out.len
  clear ho1 hb1 hp
  go_wp2_with fail
  go_quiet ((go_at_call 22; exact Calls.quiet_of_same (HDL.out _ (pw_below_drewN (Below.refl _ _) _))))
  clear qw0 qw2
  obtain ⟨wq, hwq⟩ : ∃ wq, wq = w1.drewN nq := ⟨_, rfl⟩
  have HBq := Aside0.mk (show Below w1.heap.size w1 wq by rw [hwq]; exact pw_below_drewN (Below.refl _ _) _)
  have HTq := Aside0.mk (show wq.heap.size = w1.heap.size by rw [hwq]; rfl)
  rw [← hwq]
  clear hwq
  by_cases cf : u + p ≤ m
  · have HF := Aside0.mk cf
    have t1 : decide ((S.length : Int) < (u : Int) + (p : Int)) = false := decide_eq_false (by have := HSl.out; omega)
    have t2 : decide (S.length < u + p) = false := decide_eq_false (by have := HSl.out; omega)
    have HDq := Aside0.mk (HD1.out.below HBq.out)
    have HWq := Aside0.mk (HW1.out.below HBq.out)
    have HPq := Aside0.mk (Kd.F_below HPF.out HBq.out)
    clear cf
    rw [t1]
    clear t1 t2
    go_wp2_with fail
    go_loopg [28] p (fun kq v28 w' => ∃ (i : Nat) (A' : Option Addr) (cW' : Nat), v28 = .int .i64 (i : Int) ∧ Aside0 (i + kq = p) ∧ Aside0 (DiskAt base D gS A' cW' S (W ++ partsW u b i) w') ∧ Aside0 (WalAt 66 baseW Wb D (.slice AL nL cL) L u w') ∧ Aside0 (Kd.F (Kd.slice 5 (Kd.int .u8)) w' (fun k => w.heap.size ≤ k ∧ k < w1.heap.size) AP p (partsF b)) ∧ Aside0 (TouchP (InD D gS A) w1 w') ∧ Aside0 (∀ k, InD D gS A' k → InD D gS A k ∨ w1.heap.size ≤ k))
    case atStart => exact ⟨0, A, cW, rfl, ⟨by omega⟩, ⟨by show DiskAt base D gS A cW S (W ++ []) wq; rw [List.append_nil]; exact HDq.out⟩, HWq, HPq, ⟨TouchP.of_below HBq.out⟩, ⟨fun k hk => .inl hk⟩⟩
    case round =>
      obtain ⟨i, A', cW', rfl, HI, HDr, HWr, HPr, HTr, HGr⟩ := hrel
      by_cases hlt : i < p
      · have HLT := Aside0.mk hlt
        have p1 : decide (i < p) = true := decide_eq_true hlt
        have p2 : decide ((i : Int) < (p : Int)) = true := decide_eq_true (by omega)
        have p3 := eq_true (show 0 ≤ (i : Int) by omega)
        have p4 := eq_true (show (i : Int) < (p : Int) by omega)
        obtain ⟨k1, rfl⟩ : ∃ k1, gk = k1 + 1 := ⟨gk - 1, by have := HI.out; omega⟩
        obtain ⟨ad, Aj, cj, e0, hx0, hlj, hCj⟩ := at_L1 (Kd.F_now HPr.out) (i : Int) (by omega) (by omega)
        subst e0
        rw [Int.toNat_natCast] at hx0
        have hpj : rd_L1 (partsF b) (i : Int) = partF b i := by
          unfold rd_L1
          rw [Int.toNat_natCast, List.getD_eq_getElem?_getD, partsF_get (by rw [← HPn.out]; exact hlt), Option.getD_some]
        have hpl : (partF b i).length = 16 := partF_len (by rw [← HPn.out]; exact hlt)
        rw [hpj, hpl] at hx0 hlj hCj
        have HCJ := Aside0.mk hCj
        have HLJ := Aside0.mk hlj
        have HPP := Aside0.mk (HP.out.parts (u := u) (b := b) (n := i) (by rw [← HPn.out]; omega) (by have := HF.out; omega))
        have qw0 := blk_cell (blk_drew HWr.out.blk) 0
        have qw2 := blk_cell (blk_drew HWr.out.blk) 2
        have qv0 := blk_cell HWr.out.blk 0
        have qv2 := blk_cell HWr.out.blk 2
        have lw : IntKind.i64.wrap ((u : Int) + (i : Int)) = ((u + i : Nat) : Int) := by rw [wraps62 _ (by omega) (by have := HU.out; have := HM.out; have := HPl.out; omega)]; omega
        have lw2 : wrap64 ((u : Int) + (i : Int)) = ((u + i : Nat) : Int) := by unfold wrap64; have := HU.out; have := HM.out; have := HPl.out; omega
        have HDd := Aside0.mk (HDr.out.below (below_drew (Below.refl _ _)))
        have HWd := Aside0.mk (HWr.out.below (below_drew (Below.refl _ _)))
        have HPd := Aside0.mk (Kd.F_drew HPr.out)
        have HTd := Aside0.mk (HTr.out.below (below_drew (Below.refl _ _)))
        clear hlt hpj hpl hCj
        go_wp2_with fail
        go_still_tail 11, (by kernel_rfl)
        change wpList _ _ _ _ _ wr.drew
        clear qw0 qw2 qv0 qv2 lw lw2 hx0
        go_wp2_with fail
        refine (calls_of_args (by rw [Int.natCast_add]) (write_walk base D gS cW' A' Aj S (W ++ partsW u b i) ((u + i : Nat) : Int) (partF b i) 16 cj wr.drew HDd.out (Nat.lt_of_le_of_lt HPP.out.few (by have := HQ.out; have := HI.out; have := HPl.out; omega)) (Kd.C_below HCJ.out (below_drew (Below.refl _ _))) HLJ.out)).mono ?_
        rintro e w4 ⟨rfl, A4, cW4, hd4, ht4, hg4⟩
        have HD4 := Aside0.mk (show DiskAt base D gS A4 cW4 S (W ++ partsW u b (i + 1)) w4 by
          have h1 : writeW S (W ++ partsW u b i) ((u + i : Nat) : Int) (partF b i) = W ++ partsW u b (i + 1) := by
            rw [writeW, if_pos ⟨by omega, by rw [HSl.out]; have := HF.out; have := HLT.out; omega, partF_len (by rw [← HPn.out]; exact HLT.out)⟩, partsW_succ, List.append_assoc]
          rw [← h1]; exact hd4)
        have HW4 := Aside0.mk (HWd.out.disk (by decide) HDd.out ht4.toP)
        have HP4 := Aside0.mk (Kd.F_step HPd.out (fun k hk hlt => ht4.toP.block k hlt (fun hi => by
          rcases HGr.out k hi with h1 | h1
          · have := H.out.lt h1; omega
          · omega)))
        have HT4 := Aside0.mk (HTd.out.trans ht4.toP HGr.out)
        have HG4 := Aside0.mk (show ∀ k, InD D gS A4 k → InD D gS A k ∨ w1.heap.size ≤ k from fun k hk => by
          rcases hg4 k hk with h1 | h1
          · exact HGr.out k h1
          · exact .inr (Nat.le_trans HTd.out.size h1))
        clear hd4 ht4 hg4
        go_wp2_with fail
        go_roundg k1
        case measure => omega
        case rel =>
          refine ⟨i + 1, A4, cW4, ?_, ⟨by have := HI.out; omega⟩, HD4, HW4, HP4, HT4, HG4⟩
          exact congrArg (Value.int .i64) (widx (by have := HLT.out; have := HPl.out; omega))
      · obtain rfl : p = i := by have := HI.out; omega
        have p1 : decide (p < p) = false := decide_eq_false (by omega)
        have p2 : decide ((p : Int) < (p : Int)) = false := decide_eq_false (by omega)
        clear hlt
        have qv2 := blk_cell HWr.out.blk 2
        have fv2 := blk_frozen HWr.out.blk 2
        have HBl5 := Aside0.mk (blk_put HWr.out.blk 2 (.int .i64 ((u : Int) + (p : Int))) rfl)
        have qv1 := blk_cell HBl5.out 1
        go_wp2_with fail
        obtain ⟨w5, hw5⟩ : ∃ w5, w5 = wr.setCell ⟨Wb, 2, none⟩ (.int .i64 ((u : Int) + (p : Int))) := ⟨_, rfl⟩
        rw [← hw5] at HBl5 qv1 ⊢
        have HR5 := Aside0.mk (show Kd.R (Kd.slice 5 (Kd.int .u8)) 28 w5 baseW (fun _ => True) (.slice AL nL cL) L by rw [hw5]; exact Kd.R_set HWr.out.rs HWr.out.blk (by decide) 2 _)
        have HT5 := Aside0.mk (show TouchP (fun k => InD D gS A k ∨ InW Wb (.slice AL nL cL) k) w1 w5 by rw [hw5]; exact (HTr.out.mono (fun k _ hk => .inl hk)).setCell (.inl (.inr (.inl rfl))) 2 _)
        have HD5 := Aside0.mk (show DiskAt base D gS A' cW' S (W ++ partsW u b p) w5 by
          rw [hw5]
          refine HDr.out.move (fun k hk => Below.heap_setCell _ _ _ _ (fun e => ?_))
          have e' : k = Wb := e
          subst e'
          exact HDr.out.no5 (by decide) _ _ hk HWr.out.blk)
        have HBw := Aside0.mk (show Kd.F (Kd.int .u8) w5 okb Ab n b from Kd.F_step (Kd.F_below HB.out HB1.out) (fun k hk hlt => HT5.out.block k hlt (fun hi => by
          rcases hi with h1 | h1
          · exact (HOK.out k hk).1 h1
          · exact (HOK.out k hk).2 h1)))
        clear hw5 qv2 fv2 qv1
        go_wp2_with fail
        refine wp_region_held (S := fun U => U.cell? ⟨Wb, 1, none⟩ = some (.slice AL nL cL)) (some 11) [6, 7, 8] [0, 1, 2, 3, 4, 5, 6, 7, 8, 9, 10] (by kernel_rfl) rfl (by kernel_rfl) (by kernel_rfl) ((blk_cell (blk_drew HBl5.out) 1).trans rfl) (fun hHeld => ?_)
        refine held_read (i := 0) (N := (some 55)) (v := ?_) (a' := ?_) rfl rfl rfl (fun _ _ _ h => h) (Or.inl ⟨by rfl, ?_⟩) ?_ ?_
        rotate_left
        · intro w' hS
          go_simp
          with_reducible rfl
        rotate_left
        · simp only [Act.put, List.setIfInBounds_toArray, List.set_cons_zero, List.set_cons_succ, Go.Proofs.YtoafbpbnlmcklaaW.PrintLast.i64_w, Go.Proofs.YtoafbpbnlmcklaaW.PrintLast.i32_w]
          rfl
        refine held_read (i := 1) (N := (some 56)) (v := ?_) (a' := ?_) rfl rfl rfl (fun _ _ _ h => h) (Or.inl ⟨by rfl, ?_⟩) ?_ ?_
        rotate_left
        · intro w' hS
          go_simp
          with_reducible rfl
        rotate_left
        · simp only [Act.put, List.setIfInBounds_toArray, List.set_cons_zero, List.set_cons_succ, Go.Proofs.YtoafbpbnlmcklaaW.PrintLast.i64_w, Go.Proofs.YtoafbpbnlmcklaaW.PrintLast.i32_w]
          rfl
        refine held_read (i := 2) (N := (some 57)) (v := ?_) (a' := ?_) rfl rfl rfl (fun _ _ _ h => h) (Or.inl ⟨by rfl, ?_⟩) ?_ ?_
        rotate_left
        · intro w' hS
          go_simp
          with_reducible rfl
        rotate_left
        · simp only [Act.put, List.setIfInBounds_toArray, List.set_cons_zero, List.set_cons_succ, Go.Proofs.YtoafbpbnlmcklaaW.PrintLast.i64_w, Go.Proofs.YtoafbpbnlmcklaaW.PrintLast.i32_w]
          rfl
        refine held_read (i := 3) (N := (some 58)) (v := ?_) (a' := ?_) rfl rfl rfl (fun _ _ _ h => h) (Or.inl ⟨by rfl, ?_⟩) ?_ ?_
        rotate_left
        · intro w' hS
          go_simp
          with_reducible rfl
        rotate_left
        · simp only [Act.put, List.setIfInBounds_toArray, List.set_cons_zero, List.set_cons_succ, Go.Proofs.YtoafbpbnlmcklaaW.PrintLast.i64_w, Go.Proofs.YtoafbpbnlmcklaaW.PrintLast.i32_w]
          rfl
        refine held_read (i := 4) (N := (some 59)) (v := ?_) (a' := ?_) rfl rfl rfl (fun _ _ _ h => h) (Or.inl ⟨by rfl, ?_⟩) ?_ ?_
        rotate_left
        · intro w' hS
          go_simp
          with_reducible rfl
        rotate_left
        · simp only [Act.put, List.setIfInBounds_toArray, List.set_cons_zero, List.set_cons_succ, Go.Proofs.YtoafbpbnlmcklaaW.PrintLast.i64_w, Go.Proofs.YtoafbpbnlmcklaaW.PrintLast.i32_w]
          rfl
        refine held_read (i := 5) (N := (some 60)) (v := ?_) (a' := ?_) rfl rfl rfl (fun _ _ _ h => h) (Or.inl ⟨by rfl, ?_⟩) ?_ ?_
        rotate_left
        · intro w' hS
          go_simp
          with_reducible rfl
        rotate_left
        · simp only [Act.put, List.setIfInBounds_toArray, List.set_cons_zero, List.set_cons_succ, Go.Proofs.YtoafbpbnlmcklaaW.PrintLast.i64_w, Go.Proofs.YtoafbpbnlmcklaaW.PrintLast.i32_w]
          rfl
        refine held_run (i := 6) (N := (some 61)) rfl rfl rfl (fun K hK => ?_)
        refine Go.Proofs.YtoafbpbnlmcklaaW.PrintLast.goes_ Try.func35 (by kernel_rfl) rfl #[.slice Ab n cb] (by rfl) rfl rfl (by first | done | rfl | (simp only [List.map_toArray, List.map_cons, List.map_nil]; first | done | rfl)) ?_
        refine (calls_of_args (by rw [← HBN.out]) (slices_Clone_byte_byte.calls Ab cb b b w5.drew (Kd.C_below (by rw [HBN.out]; exact Kd.F_now HBw.out) (below_drew (Below.refl _ _))) (by rw [HBN.out]; exact HCB.out) (by unfold slices_Clone_byte_byte.f; rw [if_pos (by have := HN.out; have := HBN.out; omega)]))).mono ?_
        rintro e w6 ⟨v6, rfl, ho6, hb6⟩
        refine ⟨_, rfl, ?_⟩
        refine hK.out _ _ ((blk_cell (blk_below (blk_drew HBl5.out) hb6) 1).trans rfl) ?_
        clear hK K
        refine held_norm (a' := ?_) ?_ ?_
        rotate_left
        · simp only [Act.put, List.setIfInBounds_toArray, List.set_cons_zero, List.set_cons_succ, Go.Proofs.YtoafbpbnlmcklaaW.PrintLast.i64_w, Go.Proofs.YtoafbpbnlmcklaaW.PrintLast.i32_w]
          rfl
        have HB6 := Aside0.mk (show Below w5.heap.size w5 w6 from below_then (below_drew (Below.refl _ _)) (Nat.le_refl _) hb6)
        have HO6 := Aside0.mk (show Kd.R (Kd.int .u8) 5 w6 w5.heap.size (fun _ => True) v6 b from ho6)
        have HBl6 := Aside0.mk (blk_below HBl5.out HB6.out)
        have HR6 := Aside0.mk (Kd.R_below HR5.out HB6.out)
        clear ho6 hb6
        obtain ⟨A6, c6, e6⟩ := Kd.R_slice HO6.out
        subst e6
        refine held_run (i := 7) (N := (some 62)) rfl rfl rfl (fun K hK => ?_)
        go_simp
        refine hK.out _ _ ((blk_cell (blk_alloc HBl6.out _) 1).trans rfl) ?_
        clear hK K
        refine held_run (i := 8) (N := (some 63)) rfl rfl rfl (fun K hK => ?_)
        refine Kd.R_append_step (Kd.slice 5 (Kd.int .u8)) (w0 := w6) (W := w6) baseW (by rfl) (.tmp 59) (.tmp 62) 22 28 (.slice none 0 0) 24 rfl Try.underlying22 info28' rfl (by decide) (by omega) (.slice AL nL cL) L b [.slice A6 b.length c6] (fun _ => True) (fun k => True ∧ some k ≠ (Value.slice AL nL cL).ownBlock) rfl rfl ?aP (fun _ hk => hk) (fun _ _ => trivial) HR6.out (Below.refl _ _) ?aC (by have := HLL.out; omega) ?_
        case aP => exact ⟨_, rfl, R_types' (Kd.R_lower HO6.out (Nat.le_trans HW.out.le (Nat.le_trans (Nat.le_of_lt (blk_lt HW.out.blk)) (Nat.le_trans HB1.out.size HT5.out.size)))) (fun k hk => by obtain ⟨inner, hown⟩ := Kd.R_own HR6.out; exact own_typed hown k hk) (by decide)⟩
        case aC => exact Nat.le_trans HW.out.le (Nat.le_of_lt (blk_lt HBl6.out))
        intro v7 w7 ho7 hb7 hg7 hat7
        have HO7 := Aside0.mk ho7
        have HG7 := Aside0.mk hg7
        have HAT := Aside0.mk hat7
        have HBl7 := Aside0.mk (blk_grown HBl6.out hg7 (Kd.R_ne HR6.out HBl6.out (by decide)))
        clear ho7 hb7 hg7 hat7
        refine hK.out _ _ ((blk_cell HBl7.out 1).trans rfl) ?_
        clear hK K
        refine held_norm (a' := ?_) ?_ ?_
        rotate_left
        · simp only [Act.put, List.setIfInBounds_toArray, List.set_cons_zero, List.set_cons_succ, Go.Proofs.YtoafbpbnlmcklaaW.PrintLast.i64_w, Go.Proofs.YtoafbpbnlmcklaaW.PrintLast.i32_w]
          rfl
        refine held_read (i := 9) (N := (some 64)) (v := ?_) (a' := ?_) rfl rfl rfl (fun _ _ _ h => h) (Or.inl ⟨by rfl, ?_⟩) ?_ ?_
        rotate_left
        · intro w' hS
          go_simp
          with_reducible rfl
        rotate_left
        · simp only [Act.put, List.setIfInBounds_toArray, List.set_cons_zero, List.set_cons_succ, Go.Proofs.YtoafbpbnlmcklaaW.PrintLast.i64_w, Go.Proofs.YtoafbpbnlmcklaaW.PrintLast.i32_w]
          rfl
        refine held_read (i := 10) (N := (some 65)) (v := ?_) (a' := ?_) rfl rfl rfl (fun _ _ _ h => h) (Or.inl ⟨by rfl, ?_⟩) ?_ ?_
        rotate_left
        · intro w' hS
          go_simp
          with_reducible rfl
        rotate_left
        · simp only [Act.put, List.setIfInBounds_toArray, List.set_cons_zero, List.set_cons_succ, Go.Proofs.YtoafbpbnlmcklaaW.PrintLast.i64_w, Go.Proofs.YtoafbpbnlmcklaaW.PrintLast.i32_w]
          rfl
        refine held_last (z := 11) (N := none) rfl rfl (fun K hK => ?_)
        obtain ⟨A7, c7, e7⟩ := Kd.R_slice HO7.out
        rw [show (L ++ [b]).length = L.length + 1 by simp] at e7
        subst e7
        have q1 := blk_cell HBl7.out 1
        have f1 := blk_frozen HBl7.out 1
        go_simp
        refine hK.out _ _ ?_
        clear hK K q1 f1
        go_wp2
        go_ret
        have hfit : fitsF m u b = true := fits_yes (by rw [HBN.out]; exact HN.out) (by rw [← HPn.out]; exact HF.out)
        have hD7 : DiskAt base D gS A' cW' S (W ++ partsW u b p) w7 := (HD5.out.below HB6.out).move (fun k hk => HG7.out.block k ((HD5.out.below HB6.out).lt hk) (by
          obtain ⟨_, cs', t', ht', hh⟩ := (HD5.out.below HB6.out).inD hk
          exact Kd.R_ne HR6.out hh (by rcases ht' with rfl | rfl | rfl <;> decide)))
        have hsz : w.heap.size ≤ w1.heap.size := HB1.out.size
        have hT7 : TouchP (fun k => InD D gS A k ∨ InW Wb (.slice AL nL cL) k) w (w7.setCell ⟨Wb, 1, none⟩ (.slice A7 (L.length + 1) c7)) :=
          ((((TouchP.of_below HB1.out).trans HT5.out (fun k hk => .inl hk)).below HB6.out).grown HG7.out (fun k hk => .inl (.inr (.inr hk)))).setCell (.inl (.inr (.inl rfl))) 1 _
        refine ⟨by rw [appE, if_pos (by rw [HBN.out]; exact HN.out), if_pos (by rw [← HPn.out]; exact HF.out)]; rfl, ⟨A', cW', .slice A7 (L.length + 1) c7, ?_, ?_, ?_, fun k hk => ?_, fun k hk => ?_⟩⟩
        · rw [appW, if_pos hfit, ← HPn.out]
          refine hD7.move (fun k hk => Below.heap_setCell _ _ _ _ (fun e => ?_))
          have e' : k = Wb := e
          subst e'
          exact hD7.no5 (by decide) _ _ hk HBl7.out
        · rw [appL, if_pos hfit, appU, if_pos hfit, ← HPn.out]
          refine ⟨?_, HW.out.le, Kd.R_set HO7.out HBl7.out (by decide) 1 _⟩
          rw [Int.natCast_add]
          exact blk_put HBl7.out 1 _ rfl
        · exact hT7
        · rcases HGr.out k hk with h1 | h1
          · exact .inl h1
          · exact .inr (Nat.le_trans hsz h1)
        · rcases hk with rfl | hk
          · exact .inl (.inl rfl)
          · rcases HAT.out with e | ⟨b', e, hb'⟩
            · exact .inl (.inr (by rw [← e]; exact hk))
            · rw [e] at hk
              injection hk with hk
              exact .inr (by have := HT5.out.size; have := HB6.out.size; omega)
  · have t1 : decide ((S.length : Int) < (u : Int) + (p : Int)) = true := decide_eq_true (by have := HSl.out; omega)
    rw [t1]
    have HA := Aside0.mk (Appended.same (b := b) (m := m) H.out HW.out (below_then HB1.out HB1.out.size HBq.out) (fits_no2 (by rw [← HPn.out]; exact cf)))
    have HE := Aside0.mk (show appE m u b = 7 by rw [appE, if_pos (by rw [HBN.out]; exact HN.out), if_neg (by rw [← HPn.out]; exact cf)])
    clear t1 cf
    go_wp2
    go_ret
    exact ⟨by rw [HE.out]; rfl, HA.out⟩
theorem used_walk (T base Wb D u : Nat) (vL : Value) (L : List (List Int)) (w : World) (hw : WalAt 66 base Wb D vL L u w) : Calls Try.prog 13 #[.pointer (some ⟨Wb, 0, none⟩)] w fun e w' => e = .returned (.int .i64 (u : Int)) ∧ w' = w := by
  have q := blk_cell hw.blk 2
  clear hw
  go_enter Try.func13, Try.ntmps13
  go_wp2
  go_ret
  exact ⟨rfl, rfl⟩
end Go.Proofs.Ytoafbpbnlmcklaa.PAll

namespace Go.Proofs.Ytoafbpbnlmcklaa.PAll
open Go.RowKit Go.Proofs.YtoafbpbnlmcklaaW.PrintWords Go.Proofs.YtoafbpbnlmcklaaW.PrintLast Go.Proofs.YtoafbpbnlmcklaaW.PrintMore Go.Proofs.Ytoafbpbnlmcklaa.Pure
set_option linter.unusedVariables false
set_option linter.unusedSimpArgs false
attribute [local go_sem] max2_int min2_int max_two min_two max_three min_three max_four min_four
set_option maxHeartbeats 2000000 in
set_option maxRecDepth 100000 in
theorem records_walk (T base Wb D u : Nat) (vL : Value) (L : List (List Int)) (w : World) (hw : WalAt T base Wb D vL L u w) (hL : L.length ≤ 1000000) (hl : ∀ b ∈ L, b.length ≤ 1024) :
    Calls Try.prog 17 #[.pointer (some ⟨Wb, 0, none⟩)] w fun e w' => ∃ v, e = .returned v ∧ Kd.R (Kd.slice 5 (Kd.int .u8)) 28 w' w.heap.size (fun _ => True) v L ∧ Below w.heap.size w w' := by
  obtain ⟨AL, cL, eL⟩ := Kd.R_slice hw.rs
  obtain ⟨nL, hnL⟩ : ∃ nL, nL = L.length := ⟨_, rfl⟩
  rw [← hnL] at eL
  subst eL
  have HNL := Aside0.mk hnL
  have HF := Aside0.mk (Kd.F_mono (Kd.F_bound (Kd.R_F hw.rs)) (fun k hk => hk.2))
  have HL := Aside0.mk hL
  have HLB := Aside0.mk hl
  have q1 := blk_cell hw.blk 1
  clear hw hL hl hnL
  go_enter Try.func17, Try.ntmps17
  go_wp2_with fail
  go_loopg [3, 11] nL (fun kq v3 v11 w' => ∃ (j : Nat) (Ao : Option Addr) (co : Nat), v3 = .slice Ao j co ∧ v11 = .int .i64 (j : Int) ∧ Aside0 (j + kq = nL) ∧ Aside0 (Kd.F (Kd.slice 5 (Kd.int .u8)) w' (fun k => k < w.heap.size) AL nL L) ∧ Aside0 (Kd.R (Kd.slice 5 (Kd.int .u8)) 28 w' w.heap.size (fun _ => True) (.slice Ao j co) (L.take j)) ∧ Aside0 (Below w.heap.size w w'))
  case atStart => exact ⟨0, none, 0, rfl, rfl, ⟨by omega⟩, HF, ⟨Kd.R_nil _ _ _ _ _⟩, ⟨Below.refl _ _⟩⟩
  case round =>
    obtain ⟨j, Ao, co, rfl, rfl, HJ, HFw, HR, HB⟩ := hrel
    by_cases hlt : j < nL
    · obtain ⟨b, hb⟩ : ∃ b, L[j]? = some b := ⟨_, List.getElem?_eq_getElem (by rw [← HNL.out]; exact hlt)⟩
      obtain ⟨ad, Aj, cj, e0, hx0, hlj, hCj⟩ := at_L1 (Kd.F_now HFw.out) (j : Int) (by omega) (by omega)
      subst e0
      rw [Int.toNat_natCast] at hx0
      rw [show rd_L1 L (j : Int) = b by unfold rd_L1; rw [Int.toNat_natCast, List.getD_eq_getElem?_getD, hb, Option.getD_some]] at hx0 hlj hCj
      have HCJ := Aside0.mk hCj
      have HLJ := Aside0.mk hlj
      have HBJ := Aside0.mk hb
      have HB16 := Aside0.mk (HLB.out b (List.mem_of_getElem? hb))
      have HLT := Aside0.mk hlt
      have p1 : decide (j < nL) = true := decide_eq_true hlt
      have p2 : decide ((j : Int) < (nL : Int)) = true := decide_eq_true (by omega)
      have p3 := eq_true (show 0 ≤ (j : Int) by omega)
      have p4 := eq_true (show (j : Int) < (nL : Int) by omega)
      obtain ⟨k1, rfl⟩ : ∃ k1, gk = k1 + 1 := ⟨gk - 1, by have := HJ.out; omega⟩
      clear hlt hb hlj hCj
      go_wp2_with fail
      refine (slices_Clone_byte_byte.calls Aj cj b b wr HCJ.out HLJ.out (by unfold slices_Clone_byte_byte.f; rw [if_pos (by have := HB16.out; omega)])).mono ?_
      rintro e w6 ⟨v6, rfl, ho6, hb6⟩
      obtain ⟨A6, c6, e6⟩ := Kd.R_slice ho6
      subst e6
      have HO6 := Aside0.mk ho6
      have HB6 := Aside0.mk (below_then HB.out HB.out.size hb6)
      have HF6 := Aside0.mk (Kd.F_below HFw.out hb6)
      have HR6 := Aside0.mk (Kd.R_below HR.out hb6)
      clear ho6 hb6 hx0
      go_wp2_with ((with_reducible refine gate_builtin (b := .append) (xs := #[.tmp 15, .tmp 18]) rfl ?_); at_builtin; refine Kd.R_append (Kd.slice 5 (Kd.int .u8)) (w0 := w) w.heap.size rfl (.tmp 15) (.tmp 18) 22 28 (.slice none 0 0) 24 rfl Try.underlying22 info28' rfl (by decide) (by omega) (.slice Ao j co) (L.take j) b [.slice A6 b.length c6] (fun _ => True) (fun k => True ∧ some k ≠ (Value.slice Ao j co).ownBlock) rfl rfl ?aP (fun _ hk => hk) (fun _ _ => trivial) HR6.out HB6.out HB6.out.size (by rw [List.length_take]; have := HL.out; omega) ?_; (case aP => exact ⟨_, rfl, R_types' (Kd.R_lower HO6.out HB.out.size) (fun k hk => by obtain ⟨inner, hown⟩ := Kd.R_own HR6.out; exact own_typed hown k hk) (by decide)⟩); intro v7 w7 ho7 hb7 hg7 hat7; have HO7 := Aside0.mk ho7; have HB7 := Aside0.mk hb7; have HF7 := Aside0.mk (Kd.F_grown HF6.out hg7 (fun k hk e => by have := Kd.R_base HR6.out k e.symm; omega)); clear ho7 hb7 hg7 hat7)
      obtain ⟨A7, c7, e7⟩ := Kd.R_slice HO7.out
      have ht : L.take j ++ [b] = L.take (j + 1) := by rw [List.take_add_one, HBJ.out]; rfl
      rw [ht] at HO7 e7
      rw [List.length_take, ← HNL.out, Nat.min_eq_left (by have := HLT.out; omega)] at e7
      subst e7
      clear ht
      go_roundg k1
      case measure => omega
      case rel => exact ⟨j + 1, A7, c7, rfl, congrArg (Value.int .i64) (widx (by have := HLT.out; have := HNL.out; have := HL.out; omega)), ⟨by have := HJ.out; omega⟩, HF7, HO7, HB7⟩
    · obtain rfl : nL = j := by have := HJ.out; omega
      have p1 : decide (nL < nL) = false := decide_eq_false (by omega)
      have p2 : decide ((nL : Int) < (nL : Int)) = false := decide_eq_false (by omega)
      rw [List.take_of_length_le (by rw [HNL.out]; exact Nat.le_refl _)] at HR
      clear hlt
      go_wp2
      go_ret
      exact ⟨_, rfl, HR.out, HB.out⟩
/-- How many bytes a record may still have. -/
def roomL (bytes : Nat) : Nat → Int
  | 0 => if 0 + sz 0 ≤ bytes then 0 else -1
  | n + 1 => if (n + 1) + sz (n + 1) ≤ bytes then ((n + 1 : Nat) : Int) else roomL bytes n
def roomF (m u : Nat) : Int := roomL ((m - u) * 15) (min ((m - u) * 15) 1024)
theorem size_k {n : Nat} (h : n < 72057594037927936) : ∃ k, vlq_Size.f k (n : Int) = some (sz n : Int) := (size_ev h).rounds
theorem len_m (base D gS cW m j : Nat) (A : Option Addr) (S : List (List Int)) (W : List (Int × List Int)) (w : World) (h : DiskAt base D gS A cW S W w) (hp : Parts m j S W) :
    Calls Try.prog 22 #[.pointer (some ⟨D, 0, none⟩)] w fun x w' => x = .returned (.int .i64 (m : Int)) ∧ w' = w := by
  obtain rfl : S.length = m := hp.len
  exact len_walk base D gS cW A S W w h
set_option maxHeartbeats 2000000 in
set_option maxRecDepth 100000 in
theorem room_walk (base baseW D gS cW m q Wb u : Nat) (A : Option Addr) (vL : Value) (S : List (List Int)) (W : List (Int × List Int)) (L : List (List Int)) (w : World) (h : DiskAt base D gS A cW S W w) (hw : WalAt 66 baseW Wb D vL L u w) (hp : Parts m q S W) (hm : m ≤ 512) (hu : u ≤ m) :
    Calls Try.prog 23 #[.pointer (some ⟨Wb, 0, none⟩)] w fun e w' => e = .returned (.int .i64 (roomF m u)) ∧ Below w.heap.size w w' := by
  obtain ⟨bytes, hby⟩ : ∃ bytes, bytes = (m - u) * 15 := ⟨_, rfl⟩
  have HBY := Aside0.mk hby
  have HBm := Aside0.mk (show bytes ≤ 7680 by omega)
  have qw0 := blk_cell hw.blk 0
  have qw2 := blk_cell hw.blk 2
  have HDL := Aside0.mk (fun (U : World) (hU : Below w.heap.size w U) => len_m base D gS cW m q A S W U (h.below hU) hp)
  have s1 : IntKind.i64.wrap ((m : Int) - (u : Int)) = ((m - u : Nat) : Int) := by rw [wraps62 _ (by omega) (by omega)]; omega
  have s2 : IntKind.i64.wrap (((m - u : Nat) : Int) * 15) = (bytes : Int) := by rw [wraps62 _ (by omega) (by omega)]; omega
  obtain ⟨R, hR⟩ : ∃ R, R = roomF m u := ⟨_, rfl⟩
  rw [← hR]
  have HRR := Aside0.mk hR
  clear h hw hp hby hR
  go_enter Try.func23, Try.ntmps23
  go_wp2_with fail
  go_quiet ((go_at_call 22; exact Calls.quiet_of_same (HDL.out _ (pw_below_drewN (Below.refl _ _) _))))
  clear qw0 qw2 s1 s2
  obtain ⟨wq, hwq⟩ : ∃ wq, wq = w.drewN nq := ⟨_, rfl⟩
  have HBq := Aside0.mk (show Below w.heap.size w wq by rw [hwq]; exact pw_below_drewN (Below.refl _ _) _)
  rw [← hwq]
  clear hwq
  obtain ⟨N, hN⟩ : ∃ N, N = min bytes 1024 := ⟨_, rfl⟩
  have hmin : (if (1024 : Int) < (bytes : Int) then (1024 : Int) else (bytes : Int)) = (N : Int) := by split <;> omega
  have HNN := Aside0.mk hN
  clear hN
  go_wp2_with fail
  have HR := Aside0.mk (show roomL bytes N = R by rw [HRR.out, roomF, ← HBY.out, ← HNN.out])
  clear hmin
  go_loopg [4] (N + 1) (fun kq v4 w' => ∃ x : Int, v4 = .int .i64 x ∧ Aside0 (x + 1 = (kq : Int)) ∧ Aside0 ((x = -1 ∧ R = -1) ∨ ∃ n : Nat, x = (n : Int) ∧ n ≤ 1024 ∧ roomL bytes n = R) ∧ Aside0 (Below w.heap.size w w'))
  case atStart => exact ⟨(N : Int), rfl, ⟨by omega⟩, ⟨.inr ⟨N, rfl, by have := HNN.out; omega, HR.out⟩⟩, HBq⟩
  case round =>
    obtain ⟨x, rfl, HK, HX, HB⟩ := hrel
    rcases HX.out with ⟨hx, hr⟩ | ⟨n, hx, hn, hr⟩
    · subst hx
      subst hr
      go_wp2
      go_ret
      exact ⟨rfl, HB.out⟩
    · subst hx
      have HRn := Aside0.mk hr
      have HN := Aside0.mk hn
      clear hr hn HX
      have g0 : decide ((n : Int) ≥ 0) = true := decide_eq_true (by omega)
      obtain ⟨ks, hks⟩ := size_k (n := n) (by have := HN.out; omega)
      have HKS := Aside0.mk hks
      have HSZ := Aside0.mk (sz_le8 (n := n) (by have := HN.out; omega))
      obtain ⟨s, hs⟩ : ∃ s, s = sz n := ⟨_, rfl⟩
      rw [← hs] at HKS HSZ
      have HS := Aside0.mk hs
      obtain ⟨k1, rfl⟩ : ∃ k1, gk = k1 + 1 := ⟨gk - 1, by have := HK.out; omega⟩
      clear hks hs
      by_cases c : n + s ≤ bytes
      · have HC := Aside0.mk c
        have g1 : decide (bytes < n + s) = false := decide_eq_false (by omega)
        have g2 : decide ((n : Int) + (s : Int) > (bytes : Int)) = false := decide_eq_false (by omega)
        have l1 : (n : Int) + (s : Int) ≤ 9223372036854775807 := by have := HN.out; have := HSZ.out; omega
        have HE := Aside0.mk (show R = (n : Int) by
          rw [← HRn.out]
          cases n with
          | zero => rw [roomL, if_pos (by rw [← HS.out]; exact c)]; rfl
          | succ n => rw [roomL, if_pos (by rw [← HS.out]; exact c)])
        clear c
        go_wp2_with fail
        refine (vlq_Size.calls ks (n : Int) (s : Int) wr HKS.out).mono ?_
        rintro e w2 ⟨rfl, hb2⟩
        have HB2 := Aside0.mk (below_then HB.out HB.out.size hb2)
        clear hb2
        go_wp2
        go_ret
        exact ⟨by rw [HE.out]; rfl, HB2.out⟩
      · have HC := Aside0.mk c
        have g1 : decide (bytes < n + s) = true := decide_eq_true (by omega)
        have g2 : decide ((n : Int) + (s : Int) > (bytes : Int)) = true := decide_eq_true (by omega)
        have l1 : (n : Int) + (s : Int) ≤ 9223372036854775807 := by have := HN.out; have := HSZ.out; omega
        clear c
        go_wp2_with fail
        refine (vlq_Size.calls ks (n : Int) (s : Int) wr HKS.out).mono ?_
        rintro e w2 ⟨rfl, hb2⟩
        have HB2 := Aside0.mk (below_then HB.out HB.out.size hb2)
        clear hb2
        go_wp2_with fail
        go_roundg k1
        case measure => omega
        case rel =>
          refine ⟨(n : Int) - 1, ?_, ⟨by have := HK.out; omega⟩, ⟨?_⟩, HB2⟩
          · first | rfl | exact congrArg (Value.int .i64) (by unfold wrap64; have := HN.out; omega)
          · cases n with
            | zero => exact .inl ⟨by omega, by rw [← HRn.out, roomL, if_neg (by rw [← HS.out]; exact HC.out)]⟩
            | succ n => exact .inr ⟨n, by omega, by have := HN.out; omega, by rw [← HRn.out]; conv => rhs; rw [roomL, if_neg (by rw [← HS.out]; exact HC.out)]⟩
end Go.Proofs.Ytoafbpbnlmcklaa.PAll

namespace Go.Proofs.Ytoafbpbnlmcklaa.PAll
open Go.RowKit Go.Proofs.YtoafbpbnlmcklaaW.PrintWords Go.Proofs.YtoafbpbnlmcklaaW.PrintLast Go.Proofs.YtoafbpbnlmcklaaW.PrintMore Go.Proofs.Ytoafbpbnlmcklaa.Pure
set_option linter.unusedVariables false
/-- The sectors of records. -/
def secsF (L : List (List Int)) : List (List Int) := L.flatMap partsF
theorem secsF_append (L : List (List Int)) (b : List Int) : secsF (L ++ [b]) = secsF L ++ partsF b := by simp [secsF]
theorem markF_append {s : List Int} {c : Int} (h : s.length = 15) : markF (s ++ [c]) = c := by
  unfold markF
  rw [List.getD_eq_getElem?_getD, List.getElem?_append_right (by omega), h]
  rfl
theorem take15 {s : List Int} {c : Int} (h : s.length = 15) : (s ++ [c]).take 15 = s := by
  rw [List.take_append_of_le_length (by omega), List.take_of_length_le (by omega)]
theorem partF_mark {b : List Int} {i : Nat} (hi : i < nParts b) : markF (partF b i) = if i + 1 = nParts b then 2 else 1 := markF_append (pieceF_len (bodyF_mod b) hi)
theorem partF_take {b : List Int} {i : Nat} (hi : i < nParts b) : (partF b i).take 15 = pieceF (bodyF b) i := take15 (pieceF_len (bodyF_mod b) hi)
theorem partsF_drop {b : List Int} {i : Nat} (hi : i < nParts b) : (partsF b).drop i = partF b i :: (partsF b).drop (i + 1) := by
  have hl := partsF_len b
  have hg := partsF_get hi
  rw [List.drop_eq_getElem_cons (by omega)]
  congr 1
  exact (List.getElem?_eq_some_iff.1 hg).2
/-- A record's parts are scanned as the record. -/
theorem scan_parts {b : List Int} (hb : b.length ≤ 1024) (T : List (List Int)) (k : Nat) (l : List (List Int)) (u : Nat) : ∀ (d j : Nat), nParts b - j = d + 1 → scanF ((partsF b).drop j ++ T) (k + j) ((bodyF b).take (15 * j)) l u = scanF T (k + nParts b) [] (l ++ [b]) (k + nParts b)
  | 0, j, h => by
    have hj : j + 1 = nParts b := by omega
    rw [partsF_drop (by omega), List.drop_of_length_le (by rw [partsF_len]; omega), List.cons_append, List.nil_append, scanF, partF_mark (by omega), if_pos hj, if_neg (by decide), if_pos rfl, partF_take (by omega), pieces_take _ _ _ (bodyF_mod b) (by omega), List.take_of_length_le (by rw [bodyF_mod]; omega), recordF_body hb]
    show scanF T (k + j + 1) [] (l ++ [b]) (k + j + 1) = _
    rw [show k + j + 1 = k + nParts b by omega]
  | d + 1, j, h => by
    rw [partsF_drop (by omega), List.cons_append, scanF, partF_mark (by omega), if_neg (show ¬ j + 1 = nParts b by omega), if_pos rfl, partF_take (by omega), pieces_take _ _ _ (bodyF_mod b) (by omega), show k + j + 1 = k + (j + 1) by omega]
    exact scan_parts hb T k l u d (j + 1) (by omega)
theorem scan_record {b : List Int} (hb : b.length ≤ 1024) (T : List (List Int)) (k : Nat) (l : List (List Int)) (u : Nat) : scanF (partsF b ++ T) k [] l u = scanF T (k + nParts b) [] (l ++ [b]) (k + nParts b) := by
  have h := scan_parts hb T k l u (nParts b - 1) 0 (by have := nParts_pos b; omega)
  exact h
theorem scan_records : ∀ (L : List (List Int)), (∀ b ∈ L, b.length ≤ 1024) → ∀ (T : List (List Int)) (l : List (List Int)) (u : Nat), scanF (secsF L ++ T) u [] l u = scanF T (u + (secsF L).length) [] (l ++ L) (u + (secsF L).length)
  | [], _, T, l, u => by simp [secsF]
  | b :: L, hL, T, l, u => by
    have e : secsF (b :: L) = partsF b ++ secsF L := by simp [secsF]
    rw [e, List.append_assoc, scan_record (hL b (by simp)), scan_records L (fun c hc => hL c (by simp [hc])), List.append_assoc, List.length_append, partsF_len, Nat.add_assoc]
    rfl
theorem scan_zero (n : Nat) (x : List Int) (l : List (List Int)) (i u : Nat) : scanF (List.replicate n zeroS) i x l u = (l, u) := by
  cases n with
  | zero => rfl
  | succ n => rw [List.replicate_succ, scanF, if_neg (by decide), if_neg (by decide)]
theorem open_secs {L : List (List Int)} (hL : ∀ b ∈ L, b.length ≤ 1024) (n : Nat) : openF (secsF L ++ List.replicate n zeroS) = (L, (secsF L).length) := by
  unfold openF
  rw [scan_records L hL, scan_zero, List.nil_append, Nat.zero_add]
/-- A record's writes. -/
theorem partsW_apply {b : List Int} {u : Nat} (T : List (List Int)) : ∀ n, n ≤ nParts b → u + n ≤ T.length → applyW T (partsW u b n) = T.take u ++ (partsF b).take n ++ T.drop (u + n)
  | 0, _, h => by simp [partsW, applyW]
  | n + 1, h1, h => by
    have hl : (T.take u ++ (partsF b).take n).length = u + n := by rw [List.length_append, List.length_take, List.length_take, partsF_len]; omega
    have hd : T.drop (u + n) = T[u + n] :: T.drop (u + n + 1) := List.drop_eq_getElem_cons (by omega)
    have ht : (partsF b).take (n + 1) = (partsF b).take n ++ [partF b n] := by rw [List.take_add_one, partsF_get (by omega)]; rfl
    rw [partsW_succ, applyW_append, partsW_apply T n (by omega) (by omega), hd, ht]
    show ((T.take u ++ (partsF b).take n ++ T[u + n] :: T.drop (u + n + 1)).set (((u + n : Nat) : Int)).toNat (partF b n)) = _
    rw [Int.toNat_natCast, List.set_append_right _ _ (by rw [hl]; exact Nat.le_refl _), hl, Nat.sub_self, List.set_cons_zero]
    simp [Nat.add_assoc]
/-- What a log has in its sectors. -/
structure LogAt (m u : Nat) (S : List (List Int)) (W : List (Int × List Int)) (L : List (List Int)) : Prop where
  secs : applyW S W = secsF L ++ List.replicate (m - u) zeroS
  used : u = (secsF L).length
  le : u ≤ m
  few : ∀ b ∈ L, b.length ≤ 1024
theorem LogAt.new (m : Nat) : LogAt m 0 (List.replicate m zeroS) [] [] := ⟨rfl, rfl, Nat.zero_le _, by simp⟩
theorem LogAt.open_ {m u : Nat} {S : List (List Int)} {W : List (Int × List Int)} {L : List (List Int)} (h : LogAt m u S W L) : openF (applyW S W) = (L, u) := by rw [h.secs, open_secs h.few, ← h.used]
theorem LogAt.clean {m u : Nat} {S : List (List Int)} {W : List (Int × List Int)} {L : List (List Int)} (h : LogAt m u S W L) : cleanF (applyW S W) u = applyW S W := by
  rw [cleanF, h.secs, List.length_append, List.length_replicate, ← h.used, List.take_append_of_le_length (by rw [← h.used]; exact Nat.le_refl _), List.take_of_length_le (by rw [← h.used]; exact Nat.le_refl _), show u + (m - u) - u = m - u by omega]
theorem LogAt.fewL {m u : Nat} {S : List (List Int)} {W : List (Int × List Int)} {L : List (List Int)} (h : LogAt m u S W L) : L.length ≤ u := by
  rw [h.used]
  have key : ∀ (L : List (List Int)), L.length ≤ (secsF L).length := by
    intro L
    induction L with
    | nil => simp [secsF]
    | cons b L ih =>
      have e : secsF (b :: L) = partsF b ++ secsF L := by simp [secsF]
      rw [e, List.length_append, partsF_len, List.length_cons]
      have := nParts_pos b
      omega
  exact key L
theorem LogAt.append {m u : Nat} {S : List (List Int)} {W : List (Int × List Int)} {L : List (List Int)} (h : LogAt m u S W L) (hS : S.length = m) (b : List Int) : LogAt m (appU m u b) S (appW m u W b) (appL m u L b) := by
  by_cases c : fitsF m u b = true
  · rw [appU, appW, appL, if_pos c, if_pos c, if_pos c]
    have c' := c
    rw [fitsF, Bool.and_eq_true, decide_eq_true_eq, decide_eq_true_eq] at c'
    obtain ⟨c1, c2⟩ := c'
    have hTl : (applyW S W).length = m := by rw [applyW_len, hS]
    refine ⟨?_, ?_, c2, fun x hx => ?_⟩
    · have e1 : (secsF L ++ List.replicate (m - u) zeroS).take u = secsF L := List.take_left' h.used.symm
      have e2 : (secsF L ++ List.replicate (m - u) zeroS).drop (u + nParts b) = List.replicate (m - (u + nParts b)) zeroS := by
        rw [← List.drop_drop, List.drop_left' h.used.symm, List.drop_replicate, show m - u - nParts b = m - (u + nParts b) by omega]
      have e3 : (partsF b).take (nParts b) = partsF b := List.take_of_length_le (by rw [partsF_len]; exact Nat.le_refl _)
      rw [applyW_append, partsW_apply _ _ (Nat.le_refl _) (by rw [hTl]; exact c2), h.secs, e1, e2, e3, secsF_append]
    · rw [secsF_append, List.length_append, partsF_len, ← h.used]
    · rcases List.mem_append.1 hx with hx | hx
      · exact h.few x hx
      · rw [List.mem_singleton] at hx; subst hx; exact c1
  · rw [appU, appW, appL, if_neg c, if_neg c, if_neg c]
    exact h
/-- Bytes only. -/
theorem secsF_bs {L : List (List Int)} (h : ∀ b ∈ L, Bs b) : ∀ s ∈ secsF L, Bs s := by
  intro s hs
  rw [secsF, List.mem_flatMap] at hs
  obtain ⟨b, hb, hs⟩ := hs
  rw [partsF, List.mem_map] at hs
  obtain ⟨i, _, rfl⟩ := hs
  exact partF_bs (h b hb) i
theorem zeroS_bs : Bs zeroS := Bs.replicate ⟨by omega, by omega⟩
theorem LogAt.bs {m u : Nat} {S : List (List Int)} {W : List (Int × List Int)} {L : List (List Int)} (h : LogAt m u S W L) (hb : ∀ b ∈ L, Bs b) : ∀ s ∈ applyW S W, Bs s := by
  rw [h.secs]
  intro s hs
  rcases List.mem_append.1 hs with hs | hs
  · exact secsF_bs hb s hs
  · rw [List.eq_of_mem_replicate hs]; exact zeroS_bs
theorem appL_bs {m u : Nat} {L : List (List Int)} {b : List Int} (h : ∀ c ∈ L, Bs c) (hb : Bs b) : ∀ c ∈ appL m u L b, Bs c := by
  intro c hc
  unfold appL at hc
  split at hc
  · rcases List.mem_append.1 hc with hc | hc
    · exact h c hc
    · rw [List.mem_singleton] at hc; subst hc; exact hb
  · exact h c hc
/-- How many parts a number of bytes has. -/
theorem nParts_len {b c : List Int} (h : b.length = c.length) : nParts b = nParts c := by rw [nParts_eq, nParts_eq, h]
theorem sz_mono {a b : Nat} (h : a ≤ b) : sz a ≤ sz b := (sz_le_iff (sz_pos b)).2 (Nat.lt_of_le_of_lt h (sz_bound b).1)
theorem sz_small {n : Nat} (h : n ≤ 1024) : sz n ≤ 2 := (sz_le_iff (by decide)).2 (by omega)
theorem sz_small1 {n : Nat} (h : n < 128) : sz n = 1 := sz_lt h
theorem sz_small2 {n : Nat} (h : 128 ≤ n) : 2 ≤ sz n := by
  rw [sz_ge (by omega)]
  have := sz_pos (n / 128)
  omega
theorem roomL_spec (bytes : Nat) : ∀ n, (roomL bytes n = -1 ∧ ∀ k, k ≤ n → ¬ k + sz k ≤ bytes) ∨ ∃ r : Nat, roomL bytes n = (r : Int) ∧ r ≤ n ∧ r + sz r ≤ bytes ∧ ∀ k, r < k → k ≤ n → ¬ k + sz k ≤ bytes
  | 0 => by
    by_cases c : 0 + sz 0 ≤ bytes
    · exact .inr ⟨0, by rw [roomL, if_pos c]; rfl, Nat.le_refl _, c, fun k h1 h2 => by omega⟩
    · exact .inl ⟨by rw [roomL, if_neg c], fun k hk => (by
        have hk0 : k = 0 := by omega
        subst hk0
        exact c)⟩
  | n + 1 => by
    by_cases c : (n + 1) + sz (n + 1) ≤ bytes
    · exact .inr ⟨n + 1, by rw [roomL, if_pos c], Nat.le_refl _, c, fun k h1 h2 => by omega⟩
    · rw [roomL, if_neg c]
      rcases roomL_spec bytes n with ⟨h1, h2⟩ | ⟨r, h1, h2, h3, h4⟩
      · refine .inl ⟨h1, fun k hk => ?_⟩
        by_cases e : k = n + 1
        · rw [e]; exact c
        · exact h2 k (by omega)
      · refine .inr ⟨r, h1, by omega, h3, fun k hk1 hk2 => ?_⟩
        by_cases e : k = n + 1
        · rw [e]; exact c
        · exact h4 k hk1 (by omega)
/-- What fits is what there is room for. -/
theorem fits_room {m u : Nat} (hu : u ≤ m) (b : List Int) : (appE m u b = 0 ↔ (b.length : Int) ≤ roomF m u) := by
  have hn := nParts_eq b
  have hE : appE m u b = 0 ↔ b.length ≤ 1024 ∧ u + nParts b ≤ m := by
    unfold appE
    split
    · split
      · exact ⟨fun _ => ⟨by assumption, by assumption⟩, fun _ => rfl⟩
      · exact ⟨fun h => (by cases h), fun h => absurd h.2 (by assumption)⟩
    · exact ⟨fun h => (by cases h), fun h => absurd h.1 (by assumption)⟩
  rw [hE, roomF]
  have hs := sz_pos b.length
  rcases roomL_spec ((m - u) * 15) (min ((m - u) * 15) 1024) with ⟨h1, h2⟩ | ⟨r, h1, h2, h3, h4⟩
  · rw [h1]
    constructor
    · rintro ⟨c1, c2⟩
      exact absurd (show b.length + sz b.length ≤ (m - u) * 15 by omega) (h2 b.length (by omega))
    · intro h; omega
  · rw [h1]
    constructor
    · rintro ⟨c1, c2⟩
      by_cases c : b.length ≤ r
      · omega
      · exact absurd (show b.length + sz b.length ≤ (m - u) * 15 by omega) (h4 b.length (by omega) (by omega))
    · intro h
      have hr : b.length ≤ r := by omega
      have := sz_mono hr
      omega
theorem room_mono {m u v : Nat} (h : u ≤ v) : roomF m v ≤ roomF m u := by
  unfold roomF
  rcases roomL_spec ((m - u) * 15) (min ((m - u) * 15) 1024) with ⟨h1, h2⟩ | ⟨r, h1, h2, h3, h4⟩
  · rw [h1]
    rcases roomL_spec ((m - v) * 15) (min ((m - v) * 15) 1024) with ⟨k1, k2⟩ | ⟨s, k1, k2, k3, k4⟩
    · rw [k1]; exact Int.le_refl _
    · exact absurd (show s + sz s ≤ (m - u) * 15 by omega) (h2 s (by omega))
  · rw [h1]
    rcases roomL_spec ((m - v) * 15) (min ((m - v) * 15) 1024) with ⟨k1, k2⟩ | ⟨s, k1, k2, k3, k4⟩
    · rw [k1]; omega
    · rw [k1]
      by_cases c : s ≤ r
      · omega
      · exact absurd (show s + sz s ≤ (m - u) * 15 by omega) (h4 s (by omega) (by omega))
/-- A record of just as many bytes as there is room for takes the last sector. -/
theorem room_last {m u : Nat} (hu : u ≤ m) {r : Nat} (hr : roomF m u = (r : Int)) (hlt : r ≠ 1024) (b : List Int) (hb : b.length = r) : fitsF m u b = true ∧ u + nParts b = m := by
  have hn := nParts_eq b
  rw [hb] at hn
  unfold roomF at hr
  rcases roomL_spec ((m - u) * 15) (min ((m - u) * 15) 1024) with ⟨h1, h2⟩ | ⟨s, h1, h2, h3, h4⟩
  · rw [h1] at hr; omega
  · obtain rfl : s = r := by rw [h1] at hr; omega
    have hs := sz_pos s
    have h5 : ¬ (s + 1) + sz (s + 1) ≤ (m - u) * 15 := by
      by_cases c : s + 1 ≤ min ((m - u) * 15) 1024
      · exact h4 (s + 1) (by omega) c
      · have := sz_pos (s + 1); omega
    have h6 : sz (s + 1) ≤ sz s + 1 := by
      by_cases c : s + 1 < 128
      · rw [sz_small1 c]; omega
      · have h7 := sz_small (n := s + 1) (by omega)
        omega
    have h8 : u + nParts b = m := by omega
    refine ⟨fits_yes (by omega) (by omega), h8⟩
end Go.Proofs.Ytoafbpbnlmcklaa.PAll

namespace Go.Proofs.Ytoafbpbnlmcklaa.PAll
open Go.RowKit Go.Proofs.YtoafbpbnlmcklaaW.PrintWords Go.Proofs.YtoafbpbnlmcklaaW.PrintLast Go.Proofs.YtoafbpbnlmcklaaW.PrintMore Go.Proofs.Ytoafbpbnlmcklaa.Pure
set_option linter.unusedVariables false
set_option linter.unusedSimpArgs false
/-- A disk and the log over it. -/
structure Real (B D gS m q Wb u : Nat) (A : Option Addr) (cW : Nat) (vL : Value) (S : List (List Int)) (W : List (Int × List Int)) (L : List (List Int)) (w : World) : Prop where
  d : DiskAt B D gS A cW S W w
  l : WalAt 66 B Wb D vL L u w
  p : Parts m q S W
  log : LogAt m u S W L
  bs : ∀ b ∈ L, Bs b
theorem Real.below {B D gS m q Wb u cW : Nat} {A : Option Addr} {vL : Value} {S : List (List Int)} {W : List (Int × List Int)} {L : List (List Int)} {w w' : World} (h : Real B D gS m q Wb u A cW vL S W L w) (hb : Below w.heap.size w w') : Real B D gS m q Wb u A cW vL S W L w' := ⟨h.d.below hb, h.l.below hb, h.p, h.log, h.bs⟩
theorem Real.size {B D gS m q Wb u cW : Nat} {A : Option Addr} {vL : Value} {S : List (List Int)} {W : List (Int × List Int)} {L : List (List Int)} {w : World} (h : Real B D gS m q Wb u A cW vL S W L w) : B ≤ w.heap.size := h.d.base.2.2.2
theorem Real.own {B D gS m q Wb u cW : Nat} {A : Option Addr} {vL : Value} {S : List (List Int)} {W : List (Int × List Int)} {L : List (List Int)} {w : World} (h : Real B D gS m q Wb u A cW vL S W L w) (k : Nat) (hk : InD D gS A k ∨ InW Wb vL k) : B ≤ k ∧ ∃ cs t, (t = 64 ∨ t = 74 ∨ t = 76 ∨ t = 66 ∨ t = 28) ∧ w.heap[k]? = some (Obj.cells cs t (0, 0)) := by
  rcases hk with hk | hk
  · obtain ⟨h1, cs, t, ht, hh⟩ := h.d.inD hk
    refine ⟨h1, cs, t, ?_, hh⟩
    rcases ht with rfl | rfl | rfl
    · exact .inl rfl
    · exact .inr (.inl rfl)
    · exact .inr (.inr (.inl rfl))
  · obtain ⟨h1, cs, t, ht, hh⟩ := h.l.inW hk
    refine ⟨h1, cs, t, ?_, hh⟩
    rcases ht with rfl | rfl
    · exact .inr (.inr (.inr (.inl rfl)))
    · exact .inr (.inr (.inr (.inr rfl)))
/-- Blocks of bytes are none of the log's. -/
theorem Real.ok5 {B D gS m q Wb u cW : Nat} {A : Option Addr} {vL : Value} {S : List (List Int)} {W : List (Int × List Int)} {L : List (List Int)} {w : World} (h : Real B D gS m q Wb u A cW vL S W L w) (k : Nat) (hk : ∃ cells, w.heap[k]? = some (Obj.cells cells 5 (0, 0))) : ¬ InD D gS A k ∧ ¬ InW Wb vL k := by
  obtain ⟨cells, hc⟩ := hk
  have key : ¬ (InD D gS A k ∨ InW Wb vL k) := fun hi => by
    obtain ⟨_, cs, t, ht, hh⟩ := h.own k hi
    have := blk_type hc hh
    rcases ht with rfl | rfl | rfl | rfl | rfl <;> exact absurd this (by decide)
  exact ⟨fun h1 => key (.inl h1), fun h1 => key (.inr h1)⟩
theorem Real.okB {B D gS m q Wb u cW : Nat} {A : Option Addr} {vL : Value} {S : List (List Int)} {W : List (Int × List Int)} {L : List (List Int)} {w : World} (h : Real B D gS m q Wb u A cW vL S W L w) (k : Nat) (hk : k < B) : ¬ InD D gS A k ∧ ¬ InW Wb vL k :=
  ⟨fun h1 => by have := (h.own k (.inl h1)).1; omega, fun h1 => by have := (h.own k (.inr h1)).1; omega⟩
theorem F5 {w : World} {base n c : Nat} {ok : Nat → Prop} {A : Option Addr} {xs : List Int} (h : Kd.R (Kd.int .u8) 5 w base ok (.slice A n c) xs) : Kd.F (Kd.int .u8) w (fun k => ∃ cells, w.heap[k]? = some (Obj.cells cells 5 (0, 0))) A n xs :=
  Kd.F_mono (Kd.R_F (Kd.R_bound h)) (fun k hk => by
    obtain ⟨_, _, _, q, hq, cells, hc⟩ := hk
    rcases List.mem_cons.1 hq with e | hq
    · subst e; exact ⟨cells, hc⟩
    · cases hq)
/-- Rows of bytes of one's own stay. -/
theorem Real.row5 {B D gS m q Wb u cW : Nat} {A : Option Addr} {vL : Value} {S : List (List Int)} {W : List (Int × List Int)} {L : List (List Int)} {w w' : World} (h : Real B D gS m q Wb u A cW vL S W L w) (ht : TouchP (fun k => InD D gS A k ∨ InW Wb vL k) w w') {base2 : Nat} {ok : Nat → Prop} {v : Value} {xs : List Int} (hk : Kd.R (Kd.int .u8) 5 w base2 ok v xs) : Kd.R (Kd.int .u8) 5 w' base2 ok v xs := by
  refine R_moveE hk (fun k hb => ?_) (fun k cells q hq hc => by cases hq)
  obtain ⟨inner, ho⟩ := Kd.R_own hk
  obtain ⟨cells, hc⟩ := own_typed ho k hb
  refine ht.block k (blk_lt hc) (fun hi => ?_)
  have := h.ok5 k ⟨cells, hc⟩
  rcases hi with h1 | h1
  · exact this.1 h1
  · exact this.2 h1
theorem Real.bel {B D gS m q Wb u cW : Nat} {A : Option Addr} {vL : Value} {S : List (List Int)} {W : List (Int × List Int)} {L : List (List Int)} {w0 w w' : World} {B0 : Nat} (h : Real B D gS m q Wb u A cW vL S W L w) (ht : TouchP (fun k => InD D gS A k ∨ InW Wb vL k) w w') (hb : Below B0 w0 w) (hB : B0 ≤ B) : Below B0 w0 w' :=
  ht.bel hb (Nat.le_trans hB h.size) (fun k hk => Nat.le_trans hB (h.own k hk).1)
theorem real_append (B D gS m q Wb u cW : Nat) (A : Option Addr) (vL : Value) (S : List (List Int)) (W : List (Int × List Int)) (L : List (List Int)) (b : List Int) (Ab : Option Addr) (n cb : Nat) (w : World) (okb : Nat → Prop) (h : Real B D gS m q Wb u A cW vL S W L w) (hm : m ≤ 512) (hq : q ≤ 900000)
    (hb : Kd.F (Kd.int .u8) w okb Ab n b) (hok : ∀ k, okb k → ¬ InD D gS A k ∧ ¬ InW Wb vL k) (hcb : n ≤ cb) (hbs : Bs b) :
    Calls Try.prog 12 #[.pointer (some ⟨Wb, 0, none⟩), .slice Ab n cb] w fun e w' => e = .returned (.int .i64 (appE m u b)) ∧ ∃ (A' : Option Addr) (cW' : Nat) (vL' : Value), Real B D gS m (q + 2000) Wb (appU m u b) A' cW' vL' S (appW m u W b) (appL m u L b) w' ∧ TouchP (fun k => InD D gS A k ∨ InW Wb vL k) w w' ∧ (∀ k, (InD D gS A' k ∨ InW Wb vL' k) → (InD D gS A k ∨ InW Wb vL k) ∨ w.heap.size ≤ k) := by
  refine (append_walk B B D gS cW m q Wb u A Ab vL S W L b n cb w okb h.d h.l h.p hm (by omega) h.log.le (by have := h.log.fewL; have := h.log.le; omega) hb hok hcb).mono ?_
  rintro e w' ⟨rfl, ⟨A', cW', vL', h1, h2, h3, h4, h5⟩⟩
  refine ⟨rfl, A', cW', vL', ⟨h1, h2, ?_, h.log.append h.p.len b, appL_bs h.bs hbs⟩, h3, fun k hk => ?_⟩
  · unfold appW
    split
    · rename_i c
      rw [fitsF, Bool.and_eq_true, decide_eq_true_eq, decide_eq_true_eq] at c
      have hn : nParts b ≤ 2000 := by rw [nParts_eq]; have := sz_small c.1; omega
      exact (h.p.parts (Nat.le_refl _) c.2).mono (by omega)
    · exact h.p.mono (by omega)
  · rcases hk with hk | hk
    · rcases h4 k hk with h6 | h6
      · exact .inl (.inl h6)
      · exact .inr h6
    · rcases h5 k hk with h6 | h6
      · exact .inl (.inr h6)
      · exact .inr h6
/-- A new disk, opened. -/
theorem real_open (B D gS m cW : Nat) (w : World) (h : DiskAt B D gS none cW (List.replicate m zeroS) [] w) (hm : m ≤ 512) :
    Calls Try.prog 11 #[.pointer (some ⟨D, 0, none⟩)] w fun e w' => ∃ (Wb : Nat) (vL : Value) (A' : Option Addr) (cW' : Nat), e = .returned (.pointer (some ⟨Wb, 0, none⟩)) ∧ Real B D gS m 0 Wb 0 A' cW' vL (List.replicate m zeroS) [] [] w' ∧ Below B w w' := by
  have hP := Parts.new m
  have hlog := LogAt.new m
  refine (open_walk B D gS cW m 0 none (List.replicate m zeroS) [] w h hP hm (by omega) (fun s hs => by rw [List.eq_of_mem_replicate hs]; exact zeroS_bs)).mono ?_
  rintro e w' ⟨Wb, vL, A', cW', rfl, h1, h2, h3, h4⟩
  have ho := hlog.open_
  rw [ho] at h1 h2
  simp only at h1 h2
  rw [hlog.clean] at h1
  refine ⟨Wb, vL, A', cW', rfl, ⟨h1, h2.lower h.base.2.2.2, hP, hlog, by simp⟩, ?_⟩
  exact h3.bel (Below.refl _ _) h.base.2.2.2 (fun k hk => (h.inD hk).1)
/-- A log opened anew has the same records. -/
theorem real_again (B D gS m q Wb u cW : Nat) (A : Option Addr) (vL : Value) (S : List (List Int)) (W : List (Int × List Int)) (L : List (List Int)) (w : World) (h : Real B D gS m q Wb u A cW vL S W L w) (hm : m ≤ 512) (hq : q ≤ 900000) :
    Calls Try.prog 11 #[.pointer (some ⟨D, 0, none⟩)] w fun e w' => ∃ (Wb2 : Nat) (vL2 : Value) (A' : Option Addr) (cW' : Nat), e = .returned (.pointer (some ⟨Wb2, 0, none⟩)) ∧ Real B D gS m 0 Wb2 u A' cW' vL2 (applyW S W) [] L w' ∧ WalAt 66 B Wb D vL L u w' ∧ TouchP (InD D gS A) w w' ∧ (∀ k, InD D gS A' k → InD D gS A k ∨ w.heap.size ≤ k) := by
  refine (open_walk B D gS cW m q A S W w h.d h.p hm (by omega) (h.log.bs h.bs)).mono ?_
  rintro e w' ⟨Wb2, vL2, A', cW', rfl, h1, h2, h3, h4⟩
  rw [h.log.open_] at h1 h2
  simp only at h1 h2
  rw [h.log.clean] at h1
  refine ⟨Wb2, vL2, A', cW', rfl, ⟨h1, h2.lower h.size, ⟨(applyW_len W S).trans h.p.len, applyW_16 W S (fun p hp => (h.p.val p hp).2.2) h.p.s16, by simp, by simp⟩, ⟨h.log.secs, h.log.used, h.log.le, h.log.few⟩, h.bs⟩, h.l.disk (by decide) h.d h3, h3, h4⟩
theorem same_l (L : List (List Int)) (hL : L.length < 1099511627776) : ∀ (d j : Nat), L.length - j = d → j ≤ L.length → Ev (fun k => colloquyref20_Same.l0 k L L (j : Int)) true
  | 0, j, hd, hj => by
    refine Ev.step (f := fun _ => some true) (fun k => ?_) (Ev.now _)
    rw [colloquyref20_Same.l0, if_neg (by omega)]
  | d + 1, j, hd, hj => by
    refine Ev.step (fun k => ?_) (same_l L hL d (j + 1) (by omega) (by omega))
    rw [colloquyref20_Same.l0, if_pos (by omega), if_pos (by omega), if_pos (by omega), if_pos rfl, idx_step (by omega)]
theorem same_k (L : List (List Int)) (hL : L.length < 1099511627776) : ∃ k, colloquyref20_Same.f k L L = some true := by
  obtain ⟨k, hk⟩ := same_l L hL L.length 0 (by omega) (by omega)
  refine ⟨k, ?_⟩
  rw [colloquyref20_Same.f, if_pos rfl]
  exact hk k (Nat.le_refl _)
end Go.Proofs.Ytoafbpbnlmcklaa.PAll

namespace Go.Proofs.Ytoafbpbnlmcklaa.PAll
open Go.RowKit Go.Proofs.YtoafbpbnlmcklaaW.PrintWords Go.Proofs.YtoafbpbnlmcklaaW.PrintLast Go.Proofs.YtoafbpbnlmcklaaW.PrintMore Go.Proofs.Ytoafbpbnlmcklaa.Pure
set_option linter.unusedVariables false
set_option linter.unusedSimpArgs false
theorem ab_F (w : World) : Kd.F (Kd.int .u8) (w.alloc (.cells #[.int .u8 97, .int .u8 98] 5 (2, 3))) (fun k => k = w.heap.size) (some ⟨w.heap.size, 0, none⟩) 2 [97, 98] := by
  intro W' hm
  have hs : (w.alloc (.cells #[.int .u8 97, .int .u8 98] 5 (2, 3))).heap = w.heap.push (.cells #[.int .u8 97, .int .u8 98] 5 (2, 3)) := rfl
  have h := hm w.heap.size rfl (by rw [hs, Array.size_push]; omega)
  rw [hs, Array.getElem?_push_size] at h
  refine ⟨rfl, by decide, fun _ => ⟨⟨w.heap.size, 0, none⟩, rfl, fun j p hp => ⟨[.int .u8 p], rfl, rfl, fun i u hu => ?_⟩⟩⟩
  cases i with
  | succ i => simp at hu
  | zero =>
    simp only [List.getElem?_cons_zero, Option.some.injEq] at hu
    subst hu
    rcases j with _ | _ | j
    · cases hp; rw [add_zero_at, cell_of_row W' _ _ _ _ _ h]; rfl
    · cases hp; rw [add_zero_at, cell_of_row W' _ _ _ _ _ h]; rfl
    · simp at hp
def abS : List Int := [2, 97, 98, 0, 0, 0, 0, 0, 0, 0, 0, 0, 0, 0, 0, 2]
theorem ab_body : bodyF [97, 98] = [2, 97, 98, 0, 0, 0, 0, 0, 0, 0, 0, 0, 0, 0, 0] := by
  unfold bodyF
  rw [show ([97, 98] : List Int).length = 2 from rfl, enc_lt (by decide)]
  rfl
theorem ab_n : nParts [97, 98] = 1 := by unfold nParts; rw [ab_body]; rfl
theorem ab_fits : fitsF 2 0 [97, 98] = true := by unfold fitsF; rw [ab_n]; rfl
theorem ab_part : partF [97, 98] 0 = abS := by unfold partF; rw [ab_n, ab_body]; rfl
theorem ab_E : appE 2 0 [97, 98] = 0 := by unfold appE; rw [ab_n]; rfl
theorem ab_W : appW 2 0 [] [97, 98] = [(0, abS)] := by
  unfold appW
  rw [if_pos ab_fits, ab_n, ← ab_part]
  rfl
theorem ab_L : appL 2 0 [] [97, 98] = [[97, 98]] := by unfold appL; rw [if_pos ab_fits]; rfl
theorem ab_U : appU 2 0 [97, 98] = 1 := by unfold appU; rw [if_pos ab_fits, ab_n]
set_option maxHeartbeats 4000000 in
set_option maxRecDepth 100000 in
theorem awake_walk (w : World) : Calls Try.prog 9 #[] w fun x w' => x = .returned (.bool true) ∧ Below w.heap.size w w' := by
  have kc := fun (w : World) (C : Array Value) (n c : Nat) => Lib.run_convert_bytes_const (P := Try.prog) w 28 5 C n c Try.underlying28 Try.underlying5
  go_enter Try.func9, Try.ntmps9
  go_wp2_with fail
  refine (new_tot 2 w).mono ?_
  rintro x w1 ⟨D, gS, rfl, hd1, hb1⟩
  have HD1 := Aside0.mk hd1
  have HB1 := Aside0.mk hb1
  clear hd1 hb1
  go_wp2_with fail
  refine (real_open w.heap.size D gS 2 0 w1 HD1.out (by decide)).mono ?_
  rintro x w2 ⟨Wb, vL, A2, cW2, rfl, hr2, hb2⟩
  have HR2 := Aside0.mk hr2
  have HB2 := Aside0.mk (HB1.out.trans hb2)
  clear hr2 hb2
  go_wp2_with fail
  clear kc
  have hF := ab_F w2
  refine (real_append w.heap.size D gS 2 0 Wb 0 cW2 A2 vL _ _ _ [97, 98] _ 2 2 _ _ (HR2.out.below (below_alloc (Below.refl _ _) _)) (by decide) (by decide) (ab_F w2) (fun k hk => ?_) (by decide) (by intro c hc; simp at hc; omega)).mono ?_
  · have key : ¬ (InD D gS A2 k ∨ InW Wb vL k) := fun hi => by
      obtain ⟨_, cs, t, _, hh⟩ := HR2.out.own k hi
      have := blk_lt hh
      omega
    exact ⟨fun h1 => key (.inl h1), fun h1 => key (.inr h1)⟩
  rintro x w3 ⟨rfl, A3, cW3, vL3, hr3, ht3, _⟩
  rw [ab_W, ab_L, ab_U] at hr3
  rw [ab_E]
  have HR3 := Aside0.mk hr3
  have HB3 := Aside0.mk ((HR2.out.below (below_alloc (Below.refl _ _) (.cells #[.int .u8 97, .int .u8 98] 5 (2, 3)))).bel ht3 (below_alloc HB2.out _) (Nat.le_refl _))
  clear hr3 ht3 hF
  go_wp2_with fail
  refine (read_walk w.heap.size D gS _ 2 _ _ _ _ 0 w3 HR3.out.d HR3.out.p (by decide)).mono ?_
  rintro x w4 ⟨v4, rfl, ho4, hb4⟩
  have HR4 := Aside0.mk (HR3.out.below hb4)
  have HB4 := Aside0.mk (below_then HB3.out HB3.out.size hb4)
  have hcv := own_string (P := Try.prog) Try.underlying28 Try.underlying5 Try.underlying9 (Kd.own_of_R ho4)
  have eb : ((strOfNums (readL (List.replicate 2 zeroS) [(0, abS)] 0)).toList == ([2, 97, 98, 0, 0, 0, 0, 0, 0, 0, 0, 0, 0, 0, 0, 2] : List UInt8)) = true := by rw [ByteArray.toList_eq]; rfl
  have ep := beq_iff_eq.mp eb
  clear ho4 hb4
  go_wp2_with fail
  refine (records_walk 66 w.heap.size Wb D 1 vL3 [[97, 98]] w4 HR4.out.l (by decide) HR4.out.log.few).mono ?_
  rintro x w5 ⟨v5, rfl, ho5, hb5⟩
  have HR5 := Aside0.mk (HR4.out.below hb5)
  have HB5 := Aside0.mk (below_then HB4.out HB4.out.size hb5)
  obtain ⟨A5, c5, rfl⟩ := Kd.R_slice ho5
  clear ho5 hb5 hcv
  go_wp2_with fail
  refine (used_walk 66 w.heap.size Wb D 1 vL3 [[97, 98]] w5 HR5.out.l).mono ?_
  rintro x w6 ⟨rfl, rfl⟩
  go_wp2
  go_ret
  exact ⟨rfl, HB5.out⟩
end Go.Proofs.Ytoafbpbnlmcklaa.PAll

namespace Go.Proofs.Ytoafbpbnlmcklaa.PAll
open Go.RowKit Go.Proofs.YtoafbpbnlmcklaaW.PrintWords Go.Proofs.YtoafbpbnlmcklaaW.PrintLast Go.Proofs.YtoafbpbnlmcklaaW.PrintMore Go.Proofs.Ytoafbpbnlmcklaa.Pure
set_option linter.unusedVariables false
def okBs (l : List (List Int)) : Bool := l.all (fun b => b.all (fun c => decide (0 ≤ c) && decide (c < 256)))
theorem okBs_iff {l : List (List Int)} : okBs l = true ↔ ∀ b ∈ l, Bs b := by
  unfold okBs Bs
  simp only [List.all_eq_true, Bool.and_eq_true, decide_eq_true_eq]
theorem clampN_100 {n : Int} (h : n ≤ 100) : clampN n ≤ 100 := by unfold clampN; split <;> (try split) <;> omega
theorem rd_mem {l : List (List Int)} {j : Nat} (h : j < l.length) : rd_L1 l (j : Int) ∈ l := by
  unfold rd_L1
  rw [Int.toNat_natCast, List.getD_eq_getElem?_getD, List.getElem?_eq_getElem h, Option.getD_some]
  exact List.getElem_mem h
/-- Bytes of an argument stay. -/
theorem argF {w w' : World} {A : Option Addr} {n : Nat} {xs : List Int} (h : Kd.C (Kd.int .u8) w A n xs) (hb : Below w.heap.size w w') : Kd.F (Kd.int .u8) w' (fun k => k < w.heap.size) A n xs := Kd.F_below (Kd.C_F (Kd.heap_int _) h) hb
end Go.Proofs.Ytoafbpbnlmcklaa.PAll

namespace Go.Proofs.Ytoafbpbnlmcklaa.PAll
open Go.RowKit Go.Proofs.YtoafbpbnlmcklaaW.PrintWords Go.Proofs.YtoafbpbnlmcklaaW.PrintLast Go.Proofs.YtoafbpbnlmcklaaW.PrintMore Go.Proofs.Ytoafbpbnlmcklaa.Pure
set_option linter.unusedVariables false
theorem scan_ones {R : List (List Int)} {s : List Int} (h1 : markF s ≠ 1) (h2 : markF s ≠ 2) : ∀ (P : List (List Int)), (∀ t ∈ P, markF t = 1) → ∀ k x l u, scanF (P ++ s :: R) k x l u = (l, u)
  | [], _, k, x, l, u => by rw [List.nil_append, scanF, if_neg h1, if_neg h2]
  | t :: P, h, k, x, l, u => by
    rw [List.cons_append, scanF, if_pos (h t (by simp))]
    exact scan_ones h1 h2 P (fun q hq => h q (by simp [hq])) _ _ _ _
theorem open_cut {L : List (List Int)} (hL : ∀ b ∈ L, b.length ≤ 1024) {b : List Int} {i : Nat} (hi : i < nParts b) {s : List Int} (h1 : markF s ≠ 1) (h2 : markF s ≠ 2) (R : List (List Int)) :
    openF (secsF L ++ ((partsF b).take i ++ s :: R)) = (L, (secsF L).length) := by
  unfold openF
  rw [scan_records L hL, scan_ones h1 h2, List.nil_append, Nat.zero_add]
  intro t ht
  obtain ⟨j, hj, rfl⟩ := List.mem_iff_getElem.1 ht
  rw [List.length_take, partsF_len] at hj
  rw [List.getElem_take]
  have hg := partsF_get (b := b) (i := j) (by omega)
  have e := (List.getElem?_eq_some_iff.1 hg).2
  rw [e, partF_mark (by omega), if_neg (by omega)]
theorem secsF_split (L : List (List Int)) {k : Nat} (hk : k < L.length) : secsF L = secsF (L.take k) ++ (partsF L[k] ++ secsF (L.drop (k + 1))) := by
  have e : L = L.take k ++ (L[k] :: L.drop (k + 1)) := by rw [← List.drop_eq_getElem_cons hk, List.take_append_drop]
  have e2 : ∀ (A : List (List Int)) (b : List Int) (C : List (List Int)), secsF (A ++ (b :: C)) = secsF A ++ (partsF b ++ secsF C) := by intro A b C; simp [secsF]
  calc secsF L = secsF (L.take k ++ (L[k] :: L.drop (k + 1))) := by rw [← e]
    _ = _ := e2 _ _ _
theorem secsF_take_succ (L : List (List Int)) {k : Nat} (hk : k < L.length) : (secsF (L.take (k + 1))).length = (secsF (L.take k)).length + nParts L[k] := by
  rw [List.take_add_one, List.getElem?_eq_getElem hk, Option.toList_some, secsF_append, List.length_append, partsF_len]
theorem secsF_le (L : List (List Int)) (k : Nat) : (secsF (L.take k)).length ≤ (secsF L).length := by
  have e : secsF L = secsF (L.take k) ++ secsF (L.drop k) := by
    rw [secsF, secsF, secsF, ← List.flatMap_append, List.take_append_drop]
  rw [e, List.length_append]
  omega
/-- The records ahead of the one that has the sector. -/
theorem cut_open {L : List (List Int)} (hL : ∀ b ∈ L, b.length ≤ 1024) {T : List (List Int)} {idx k : Nat} (hk : k < L.length) (h1 : (secsF (L.take k)).length ≤ idx) (h2 : idx < (secsF (L.take (k + 1))).length) (hT : T.take idx = (secsF L).take idx) {s : List Int} (hs : T[idx]? = some s) (hm1 : markF s ≠ 1) (hm2 : markF s ≠ 2) :
    openF T = (L.take k, (secsF (L.take k)).length) := by
  rw [secsF_take_succ L hk] at h2
  obtain ⟨hlt, hse⟩ := List.getElem?_eq_some_iff.1 hs
  have e : T = T.take idx ++ (s :: T.drop (idx + 1)) := by rw [← hse, ← List.drop_eq_getElem_cons hlt, List.take_append_drop]
  have e2 : (secsF L).take idx = secsF (L.take k) ++ (partsF L[k]).take (idx - (secsF (L.take k)).length) := by
    rw [secsF_split L hk, List.take_append, List.take_of_length_le h1, List.take_append_of_le_length (by rw [partsF_len]; omega)]
  rw [e, hT, e2, List.append_assoc]
  exact open_cut (fun b hb => hL b (List.mem_of_mem_take hb)) (by omega) hm1 hm2 _
theorem cut_at (L : List (List Int)) {idx : Nat} : ∀ n, n ≤ L.length → idx < (secsF (L.take n)).length → ∃ k, k < n ∧ (secsF (L.take k)).length ≤ idx ∧ idx < (secsF (L.take (k + 1))).length
  | 0, _, h => by simp [secsF] at h
  | n + 1, hn, h => by
    by_cases c : idx < (secsF (L.take n)).length
    · obtain ⟨k, h1, h2, h3⟩ := cut_at L n (by omega) c
      exact ⟨k, by omega, h2, h3⟩
    · exact ⟨n, by omega, by omega, h⟩
theorem secsF_mono {L : List (List Int)} {j k : Nat} (h : j ≤ k) : (secsF (L.take j)).length ≤ (secsF (L.take k)).length := by
  have := secsF_le (L.take k) j
  rw [List.take_take, Nat.min_eq_left h] at this
  exact this
/-- Sectors that are a log's, or have no mark: the records are some first ones. -/
theorem torn_open {L : List (List Int)} (hL : ∀ b ∈ L, b.length ≤ 1024) {T : List (List Int)} {z sure : Nat} (hlen : T.length = (secsF L).length + z) (hsure : sure ≤ L.length)
    (h1 : ∀ i, i < (secsF (L.take sure)).length → T[i]? = (secsF L)[i]?)
    (h2 : ∀ i s, (secsF (L.take sure)).length ≤ i → T[i]? = some s → i < (secsF L).length → (secsF L)[i]? = some s ∨ (markF s ≠ 1 ∧ markF s ≠ 2))
    (h3 : ∀ i s, (secsF L).length ≤ i → T[i]? = some s → s = zeroS) :
    ∃ k, sure ≤ k ∧ k ≤ L.length ∧ openF T = (L.take k, (secsF (L.take k)).length) := by
  by_cases c : ∃ i, i < (secsF L).length ∧ T[i]? ≠ (secsF L)[i]?
  · -- the first such sector
    have key : ∀ n, (∃ i, i < n ∧ i < (secsF L).length ∧ T[i]? ≠ (secsF L)[i]?) → ∃ i, i < (secsF L).length ∧ T[i]? ≠ (secsF L)[i]? ∧ ∀ j, j < i → T[j]? = (secsF L)[j]? := by
      intro n
      induction n with
      | zero => rintro ⟨i, h, _⟩; omega
      | succ n ih =>
        rintro ⟨i, hi, hi2, hi3⟩
        by_cases d : ∃ i, i < n ∧ i < (secsF L).length ∧ T[i]? ≠ (secsF L)[i]?
        · exact ih d
        · have : i = n := by
            by_cases e : i < n
            · exact absurd ⟨i, e, hi2, hi3⟩ d
            · omega
          subst this
          refine ⟨i, hi2, hi3, fun j hj => ?_⟩
          by_cases e : T[j]? = (secsF L)[j]?
          · exact e
          · exact absurd ⟨j, hj, by omega, e⟩ d
    obtain ⟨i0, hi0, hn0⟩ := c
    obtain ⟨i, hi, hne, hfirst⟩ := key (i0 + 1) ⟨i0, by omega, hi0, hn0⟩
    have hge : (secsF (L.take sure)).length ≤ i := by
      by_cases e : i < (secsF (L.take sure)).length
      · exact absurd (h1 i e) hne
      · omega
    have hlt : i < T.length := by omega
    have hTi : T[i]? = some T[i] := List.getElem?_eq_getElem hlt
    rcases h2 i T[i] hge hTi hi with h4 | ⟨h4, h5⟩
    · exact absurd (by rw [hTi, h4]) hne
    · obtain ⟨k, hk, hk1, hk2⟩ := cut_at L (idx := i) L.length (Nat.le_refl _) (by rw [List.take_of_length_le (Nat.le_refl _)]; exact hi)
      refine ⟨k, ?_, by omega, cut_open hL hk hk1 hk2 (List.ext_getElem? fun j => ?_) hTi h4 h5⟩
      · by_cases e : sure ≤ k
        · exact e
        · have := secsF_mono (L := L) (j := k + 1) (k := sure) (by omega)
          omega
      · rw [List.getElem?_take, List.getElem?_take]
        split
        · rename_i hj; exact hfirst j hj
        · rfl
  · refine ⟨L.length, hsure, Nat.le_refl _, ?_⟩
    rw [List.take_of_length_le (Nat.le_refl _)]
    have e : T = secsF L ++ List.replicate z zeroS := by
      refine List.ext_getElem? fun j => ?_
      by_cases hj : j < (secsF L).length
      · rw [List.getElem?_append_left hj]
        by_cases e : T[j]? = (secsF L)[j]?
        · exact e
        · exact absurd ⟨j, hj, e⟩ c
      · rw [List.getElem?_append_right (by omega), List.getElem?_replicate]
        by_cases hj2 : j < T.length
        · rw [if_pos (by omega), List.getElem?_eq_getElem hj2]
          exact congrArg some (h3 j _ (by omega) (List.getElem?_eq_getElem hj2))
        · rw [if_neg (by omega), List.getElem?_eq_none (by omega)]
    rw [e]
    exact open_secs hL z
/-- What of a log was synced, and what waits. -/
structure Sure (m u u0 sure : Nat) (S : List (List Int)) (W : List (Int × List Int)) (L : List (List Int)) : Prop where
  es : S = secsF (L.take sure) ++ List.replicate (m - u0) zeroS
  eu : u0 = (secsF (L.take sure)).length
  le : sure ≤ L.length
  w : ∀ j p, W[j]? = some p → p.1 = ((u0 + j : Nat) : Int) ∧ (secsF L)[u0 + j]? = some p.2
  en : u0 + W.length = (secsF L).length
theorem Sure.new (m : Nat) : Sure m 0 0 0 (List.replicate m zeroS) [] [] := ⟨rfl, rfl, by simp, by simp, rfl⟩
theorem Sure.sync {m u u0 sure : Nat} {S : List (List Int)} {W : List (Int × List Int)} {L : List (List Int)} (h : LogAt m u S W L) : Sure m u u L.length (applyW S W) [] L :=
  ⟨by rw [List.take_of_length_le (Nat.le_refl _)]; exact h.secs, by rw [List.take_of_length_le (Nat.le_refl _)]; exact h.used, Nat.le_refl _, by simp, by simpa using h.used⟩
theorem Sure.append {m u u0 sure : Nat} {S : List (List Int)} {W : List (Int × List Int)} {L : List (List Int)} (h : Sure m u u0 sure S W L) (hu : u = (secsF L).length) (b : List Int) : Sure m (appU m u b) u0 sure S (appW m u W b) (appL m u L b) := by
  by_cases c : fitsF m u b = true
  · rw [appU, appW, appL, if_pos c, if_pos c, if_pos c]
    refine ⟨by rw [List.take_append_of_le_length h.le]; exact h.es, by rw [List.take_append_of_le_length h.le]; exact h.eu, by have := h.le; simp; omega, fun j p hp => ?_, by rw [List.length_append, partsW_len, secsF_append, List.length_append, partsF_len]; have := h.en; omega⟩
    rw [secsF_append]
    have hn := h.en
    by_cases hj : j < W.length
    · rw [List.getElem?_append_left hj] at hp
      obtain ⟨h1, h2⟩ := h.w j p hp
      refine ⟨h1, ?_⟩
      rw [List.getElem?_append_left (by omega)]
      exact h2
    · rw [List.getElem?_append_right (by omega), partsW, List.getElem?_map] at hp
      obtain ⟨i, hi, rfl⟩ := Option.map_eq_some_iff.1 hp
      obtain ⟨hi1, hi2⟩ := List.getElem?_eq_some_iff.1 hi
      rw [List.getElem_range] at hi2
      rw [List.length_range] at hi1
      subst hi2
      refine ⟨by show (((u + (j - W.length) : Nat)) : Int) = _; rw [show u + (j - W.length) = u0 + j by omega], ?_⟩
      rw [List.getElem?_append_right (by omega), show u0 + j - (secsF L).length = j - W.length by omega]
      exact partsF_get (by omega)
  · rw [appU, appW, appL, if_neg c, if_neg c, if_neg c]
    exact h
theorem markF_mix {n : Nat} (hn : n ≤ 15) {x : List Int} (hx : x.length = 16) : markF (x.take n ++ zeroS.drop n) = 0 := by
  unfold markF
  rw [List.getD_eq_getElem?_getD, List.getElem?_append_right (by rw [List.length_take]; omega), List.length_take, Nat.min_eq_left (by omega), List.getElem?_drop, show n + (15 - n) = 15 by omega]
  rfl
theorem crash_spec {m u u0 sure : Nat} {S : List (List Int)} {W : List (Int × List Int)} {L : List (List Int)} (h : Sure m u u0 sure S W L) (keep : List Bool) (torn : Int) {n : Nat} (hn : n ≤ 16) (h16 : ∀ s ∈ secsF L, s.length = 16) (hm : (secsF L).length ≤ m) : ∀ j, j ≤ W.length →
    (∀ i, i < u0 → (crashW keep torn n S W j)[i]? = S[i]?) ∧ (∀ i s, u0 ≤ i → i < u0 + j → (crashW keep torn n S W j)[i]? = some s → (secsF L)[i]? = some s ∨ markF s = 0) ∧ (∀ i, u0 + j ≤ i → (crashW keep torn n S W j)[i]? = S[i]?)
  | 0, _ => ⟨fun _ _ => rfl, fun i s h1 h2 => by omega, fun _ _ => rfl⟩
  | j + 1, hj => by
    obtain ⟨g1, g2, g3⟩ := crash_spec h keep torn hn h16 hm j (by omega)
    have hp : W[j]? = some W[j] := List.getElem?_eq_getElem (by omega)
    obtain ⟨p1, p2⟩ := h.w j _ hp
    rw [crashW_step hp]
    have hnn := h.en
    have hold : (crashW keep torn n S W j)[u0 + j]? = some zeroS := by
      rw [g3 _ (Nat.le_refl _), h.es, List.getElem?_append_right (by rw [← h.eu]; omega), List.getElem?_replicate, if_pos (by rw [← h.eu]; omega)]
    have hoD : (crashW keep torn n S W j).getD (u0 + j) [] = zeroS := by rw [List.getD_eq_getElem?_getD, hold]; rfl
    have key : ∀ (x : List Int), ((secsF L)[u0 + j]? = some x ∨ markF x = 0) → (∀ i, i < u0 → ((crashW keep torn n S W j).set (W[j].1.toNat) x)[i]? = S[i]?) ∧ (∀ i s, u0 ≤ i → i < u0 + (j + 1) → ((crashW keep torn n S W j).set (W[j].1.toNat) x)[i]? = some s → (secsF L)[i]? = some s ∨ markF s = 0) ∧ (∀ i, u0 + (j + 1) ≤ i → ((crashW keep torn n S W j).set (W[j].1.toNat) x)[i]? = S[i]?) := by
      intro x hx
      rw [p1, Int.toNat_natCast]
      refine ⟨fun i hi => ?_, fun i s h1 h2 h3 => ?_, fun i hi => ?_⟩
      · rw [List.getElem?_set_ne (by omega)]; exact g1 i hi
      · by_cases e : i = u0 + j
        · subst e
          rw [List.getElem?_set_self (List.getElem?_eq_some_iff.1 hold).1] at h3
          cases h3
          exact hx
        · rw [List.getElem?_set_ne (by omega)] at h3
          exact g2 i s h1 (by omega) h3
      · rw [List.getElem?_set_ne (by omega)]; exact g3 i (by omega)
    unfold crashS
    split
    · exact key _ (.inl p2)
    · split
      · refine key _ ?_
        have hl : W[j].2.length = 16 := h16 _ (List.mem_of_getElem? p2)
        rw [p1, Int.toNat_natCast, hoD]
        by_cases e : n = 16
        · left
          rw [e, List.take_of_length_le (by omega), show zeroS.drop 16 = [] from rfl, List.append_nil]
          exact p2
        · exact .inr (markF_mix (by omega) hl)
      · refine ⟨g1, fun i s h1 h2 h3 => ?_, fun i hi => g3 i (by omega)⟩
        by_cases e : i = u0 + j
        · subst e
          rw [hold] at h3
          cases h3
          exact .inr rfl
        · exact g2 i s h1 (by omega) h3
theorem secsF_16 (L : List (List Int)) : ∀ s ∈ secsF L, s.length = 16 := by
  intro s hs
  rw [secsF, List.mem_flatMap] at hs
  obtain ⟨b, hb, hs⟩ := hs
  rw [partsF, List.mem_map] at hs
  obtain ⟨i, hi, rfl⟩ := hs
  exact partF_len (List.mem_range.1 hi)
/-- Behind a crash there are the records that were synced, and some first ones of those that waited. -/
theorem keeps_open {m u u0 sure : Nat} {S : List (List Int)} {W : List (Int × List Int)} {L : List (List Int)} (h : Sure m u u0 sure S W L) (hlog : LogAt m u S W L) (keep : List Bool) (torn : Int) {n : Nat} (hn : n ≤ 16) :
    ∃ k, sure ≤ k ∧ k ≤ L.length ∧ openF (crashW keep torn n S W W.length) = (L.take k, (secsF (L.take k)).length) := by
  have hm : (secsF L).length ≤ m := by rw [← hlog.used]; exact hlog.le
  obtain ⟨g1, g2, g3⟩ := crash_spec h keep torn hn (secsF_16 L) hm W.length (Nat.le_refl _)
  have hu := h.eu
  have hsl := secsF_le L sure
  have hSl : S.length = m := by rw [h.es, List.length_append, List.length_replicate, ← h.eu]; omega
  have hS : ∀ i, i < u0 → S[i]? = (secsF L)[i]? := by
    intro i hi
    have e : secsF L = secsF (L.take sure) ++ secsF (L.drop sure) := by rw [secsF, secsF, secsF, ← List.flatMap_append, List.take_append_drop]
    rw [h.es, List.getElem?_append_left (by omega), e, List.getElem?_append_left (by omega)]
  refine torn_open hlog.few (z := m - (secsF L).length) (by rw [crashW_len]; omega) h.le (fun i hi => ?_) (fun i s h1 h2 h3 => ?_) (fun i s h1 h2 => ?_)
  · rw [g1 i (by omega)]; exact hS i (by omega)
  · rcases g2 i s (by omega) (by have := h.en; omega) h2 with h4 | h4
    · exact .inl h4
    · exact .inr (by rw [h4]; exact ⟨by decide, by decide⟩)
  · rw [g3 i (by have := h.en; omega), h.es, List.getElem?_append_right (by omega), List.getElem?_replicate] at h2
    split at h2
    · cases h2; rfl
    · cases h2
theorem crashW_bs {keep : List Bool} {torn : Int} {n : Nat} {S : List (List Int)} {W : List (Int × List Int)} (hS : ∀ s ∈ S, Bs s) (hW : ∀ p ∈ W, Bs p.2) : ∀ j, ∀ s ∈ crashW keep torn n S W j, Bs s
  | 0 => hS
  | j + 1 => by
    have ih := crashW_bs (keep := keep) (torn := torn) (n := n) hS hW j
    rw [crashW]
    split
    · rename_i p hp
      have hp2 := hW p (List.mem_of_getElem? hp)
      intro s hs
      unfold crashS at hs
      split at hs
      · rcases List.mem_or_eq_of_mem_set hs with h | h
        · exact ih s h
        · rw [h]; exact hp2
      · split at hs
        · rcases List.mem_or_eq_of_mem_set hs with h | h
          · exact ih s h
          · rw [h]
            refine (hp2.take _).append (Bs.drop ?_ _)
            rw [List.getD_eq_getElem?_getD]
            cases hq : (crashW keep torn n S W j)[p.1.toNat]? with
            | none => intro c hc; simp at hc
            | some q => exact ih q (List.mem_of_getElem? hq)
        · exact ih s hs
    · exact ih
theorem Sure.bs {m u u0 sure : Nat} {S : List (List Int)} {W : List (Int × List Int)} {L : List (List Int)} (h : Sure m u u0 sure S W L) (hb : ∀ b ∈ L, Bs b) : (∀ s ∈ S, Bs s) ∧ ∀ p ∈ W, Bs p.2 := by
  refine ⟨fun s hs => ?_, fun p hp => ?_⟩
  · rw [h.es] at hs
    rcases List.mem_append.1 hs with hs | hs
    · exact secsF_bs (fun b hb2 => hb b (List.mem_of_mem_take hb2)) s hs
    · rw [List.eq_of_mem_replicate hs]; exact zeroS_bs
  · obtain ⟨j, hj, rfl⟩ := List.mem_iff_getElem.1 hp
    exact secsF_bs hb _ (List.mem_of_getElem? (h.w j _ (List.getElem?_eq_getElem hj)).2)
/-- One sector's mark becomes nought. -/
theorem cut_sect {m u : Nat} {S : List (List Int)} {W : List (Int × List Int)} {L : List (List Int)} (hlog : LogAt m u S W L) {at_ : Nat} (hat : at_ < u) {s : List Int} (h1 : markF s ≠ 1) (h2 : markF s ≠ 2) {k : Nat} (hk : k ≤ L.length) (hk1 : (secsF (L.take k)).length ≤ at_) (hk2 : k < L.length → at_ < (secsF (L.take (k + 1))).length) :
    openF ((applyW S W).set at_ s) = (L.take k, (secsF (L.take k)).length) := by
  have hu := hlog.used
  have hklt : k < L.length := by
    by_cases e : k < L.length
    · exact e
    · rw [List.take_of_length_le (by omega)] at hk1
      omega
  refine cut_open hlog.few hklt hk1 (hk2 hklt) (List.ext_getElem? fun j => ?_) (s := s) ?_ h1 h2
  · rw [List.getElem?_take, List.getElem?_take]
    split
    · rename_i hj
      rw [List.getElem?_set_ne (by omega), hlog.secs, List.getElem?_append_left (by omega)]
    · rfl
  · rw [List.getElem?_set_self]
    rw [hlog.secs, List.length_append]
    omega
end Go.Proofs.Ytoafbpbnlmcklaa.PAll
