/- Texts merged: DiskCrash DiskNew DiskAwake DiskSmall DiskFew DiskFacts DiskTotal. -/
import Derived.Test.YtoafbpbnlmcklaaMDiskA
namespace Go.Proofs.Ytoafbpbnlmcklaa.PAll
open Go.RowKit Go.Proofs.YtoafbpbnlmcklaaW.PrintWords Go.Proofs.YtoafbpbnlmcklaaW.PrintLast Go.Proofs.YtoafbpbnlmcklaaW.PrintMore
attribute [local go_sem] max2_int min2_int max_two min_two max_three min_three max_four min_four
set_option linter.unusedVariables false
set_option linter.unusedSimpArgs false
/-- One write behind a crash. -/
def crashS (keep : List Bool) (torn : Int) (n : Nat) (S : List (List Int)) (j : Nat) (p : Int × List Int) : List (List Int) :=
  if keep.getD j false = true then S.set p.1.toNat p.2 else if (j : Int) = torn then S.set p.1.toNat (p.2.take n ++ (S.getD p.1.toNat []).drop n) else S
/-- The sectors behind the first writes. -/
def crashW (keep : List Bool) (torn : Int) (n : Nat) (S : List (List Int)) (W : List (Int × List Int)) : Nat → List (List Int)
  | 0 => S
  | j + 1 => match W[j]? with
    | some p => crashS keep torn n (crashW keep torn n S W j) j p
    | none => crashW keep torn n S W j
theorem crashS_len (keep : List Bool) (torn : Int) (n : Nat) (S : List (List Int)) (j : Nat) (p : Int × List Int) : (crashS keep torn n S j p).length = S.length := by
  unfold crashS
  split
  · exact List.length_set
  · split
    · exact List.length_set
    · rfl
theorem crashW_len (keep : List Bool) (torn : Int) (n : Nat) (S : List (List Int)) (W : List (Int × List Int)) : ∀ j, (crashW keep torn n S W j).length = S.length
  | 0 => rfl
  | j + 1 => by
    rw [crashW]
    split
    · rw [crashS_len]; exact crashW_len keep torn n S W j
    · exact crashW_len keep torn n S W j
theorem crashW_step {keep : List Bool} {torn : Int} {n : Nat} {S : List (List Int)} {W : List (Int × List Int)} {j : Nat} {p : Int × List Int} (hp : W[j]? = some p) : crashW keep torn n S W (j + 1) = crashS keep torn n (crashW keep torn n S W j) j p := by
  rw [crashW, hp]
theorem RowAt.setTake {g i n : Nat} {S : List (List Int)} {b old : List Int} {w : World} {cur : Array Value} (hh : w.heap[g]? = some (.cells cur 74 (0, 0))) (hs : S.length * 16 ≤ cur.size) (hr : ∀ k x, S[k]? = some x → (secC x).length = 16 ∧ ∀ j v, (secC x)[j]? = some v → cur[k * 16 + j]? = some v)
    (hi : i < S.length) (ho : S[i]? = some old) (hb : (secC b).length = 16) (hn : n ≤ 16) : RowAt secC 16 74 g (S.set i (b.take n ++ old.drop n)) (w.setRow g (splice cur.toList (i * 16) (secC (b.take n))).toArray) := by
  have hfit : i * 16 + 16 ≤ cur.size := by omega
  have hol := (hr i old ho).1
  have hcl : (secC (b.take n)).length = n := by rw [secC_len, List.length_take]; rw [secC_len] at hb; omega
  have hl : (splice cur.toList (i * 16) (secC (b.take n))).length = cur.size := by rw [length_splice _ _ _ (by rw [hcl, Array.length_toList]; omega), Array.length_toList]
  refine ⟨_, setRow_heap _ _ _ _ _ _ hh, by rw [List.length_set, List.size_toArray, hl]; exact hs, fun k x hx => ?_⟩
  have key : ∀ q, (splice cur.toList (i * 16) (secC (b.take n))).toArray[q]? = if q < i * 16 then cur[q]? else if q < i * 16 + n then (secC (b.take n))[q - i * 16]? else cur[q]? := by
    intro q
    rw [List.getElem?_toArray, splice]
    have h1 : (cur.toList.take (i * 16)).length = i * 16 := by rw [List.length_take, Array.length_toList]; omega
    by_cases c : q < i * 16
    · rw [List.getElem?_append_left (by rw [h1]; exact c), List.getElem?_take, if_pos c, if_pos c, Array.getElem?_toList]
    · rw [List.getElem?_append_right (by rw [h1]; omega), h1, if_neg c]
      by_cases c2 : q < i * 16 + n
      · rw [List.getElem?_append_left (by rw [hcl]; omega), if_pos c2]
      · rw [List.getElem?_append_right (by rw [hcl]; omega), if_neg c2, hcl, List.getElem?_drop, Array.getElem?_toList]
        congr 1
        omega
  by_cases ck : k = i
  · subst ck
    rw [List.getElem?_set_self hi] at hx
    obtain rfl := Option.some.inj hx
    rw [secC_len] at hb hol
    refine ⟨by rw [secC_len, List.length_append, List.length_take, List.length_drop]; omega, fun j v hv => ?_⟩
    have hj : j < 16 := by
      have := (List.getElem?_eq_some_iff.1 hv).1
      rw [secC_len, List.length_append, List.length_take, List.length_drop] at this
      omega
    rw [key, if_neg (by omega)]
    rw [secC, List.map_append] at hv
    by_cases c : j < n
    · rw [if_pos (by omega), show k * 16 + j - k * 16 = j by omega]
      rw [List.getElem?_append_left (by rw [List.length_map, List.length_take]; omega)] at hv
      exact hv
    · rw [if_neg (by omega)]
      rw [List.getElem?_append_right (by rw [List.length_map, List.length_take]; omega), List.length_map, List.length_take, show min n b.length = n by omega, List.map_drop, List.getElem?_drop, show n + (j - n) = j by omega] at hv
      exact (hr k old ho).2 j v hv
  · rw [List.getElem?_set_ne (Ne.symm ck)] at hx
    refine ⟨(hr k x hx).1, fun j v hv => ?_⟩
    have hj : j < 16 := by rw [← (hr k x hx).1]; exact (List.getElem?_eq_some_iff.1 hv).1
    rw [key]
    by_cases c : k * 16 + j < i * 16
    · rw [if_pos c]; exact (hr k x hx).2 j v hv
    · rw [if_neg c, if_neg (by omega)]; exact (hr k x hx).2 j v hv
theorem blk_of_base {base D gS cW : Nat} {A : Option Addr} {S : List (List Int)} {W : List (Int × List Int)} {w : World} (h : DiskAt base D gS A cW S W w) : ∀ a, A = some a → base ≤ a.block := by
  intro a ha
  rcases h.2.2.2.2.2 with ⟨he, _⟩ | ⟨g, cap, cur, he, hg, _⟩
  · injection he with hA
    rw [hA] at ha; cases ha
  · injection he with hA
    rw [hA] at ha
    obtain rfl := Option.some.inj ha
    exact hg
theorem slice54 (g off n : Nat) (hn : n ≤ 16) (W : World) : (Instr.sliceAt 74 (.pointer (some ⟨g, off, none⟩)) none (some (.int .i64 (n : Int))) none).run Try.prog W = .ok (.slice (some ⟨g, off, none⟩) n 16) W := by
  have e : Try.prog.arrayLen 74 = 16 := by kernel_rfl
  have hs : (sizeOf (Try.prog.elem 74)).run Try.prog W = .ok 1 W := by kernel_rfl
  have h := run_sliceAt_array_h (P := Try.prog) (w := W) (t := 74) (a := ⟨g, off, none⟩) (by kernel_rfl) .i64 (n : Int) (Int.natCast_nonneg n) (by rw [e]; omega)
  rw [h, hs, e]
  simp [slicedAt, Result.andThen, Addr.add]
theorem sec_oneCell (s : List Int) : ∀ v ∈ secC s, v.oneCell' = true := by
  intro v hv
  obtain ⟨x, -, rfl⟩ := List.mem_map.1 hv
  rfl
theorem src_cells {w : World} {g n : Nat} {p : Int × List Int} {e : TypeId} (h : w.heap[g]? = some (.cells (wrC p).toArray e (0, 0))) : ∀ j v, (secC (p.2.take n))[j]? = some v → w.cell? ((⟨g, 1, none⟩ : Addr).add j) = some v := by
  intro j v hv
  have hadd : (⟨g, 1, none⟩ : Addr).add j = ⟨g, 1 + j, none⟩ := by unfold Addr.add; split <;> simp_all
  rw [hadd, cell_of_row w g (1 + j) _ _ _ h]
  refine wr_tail p j v ?_
  rw [secC, List.map_take, List.getElem?_take] at hv
  split at hv
  · exact hv
  · cases hv
theorem kfact {w w2 : World} {ad : Addr} {v : Value} (h : w.cell? ad = some v) (hb : Below w.heap.size w w2) : w2.cell? ad = some v := by
  have hlt := World.block_lt_of_cell? w ad h
  have := hb.block ad.block hlt
  simpa [World.cell?, this] using h
set_option maxHeartbeats 4000000 in
set_option maxRecDepth 100000 in
theorem crash_walkK (base D gS cW n : Nat) (A Ak : Option Addr) (ck : Nat) (S : List (List Int)) (W : List (Int × List Int)) (keep : List Bool) (torn bytes m1 : Int) (w : World) (h : DiskAt base D gS A cW S W w) (hv : ∀ p ∈ W, 0 ≤ p.1 ∧ p.1 < (S.length : Int) ∧ p.2.length = 16) (hn : W.length < 1099511627776)
    (hk : Kd.F Kd.bool w (fun k => k ≠ gS) Ak keep.length keep) (hm1 : (if bytes < 0 then (0 : Int) else bytes) = m1) (hm2 : (if 16 < m1 then (16 : Int) else m1) = (n : Int)) (hn16 : n ≤ 16) :
    Calls Try.prog 26 #[.pointer (some ⟨D, 0, none⟩), .slice Ak keep.length ck, .int .i64 torn, .int .i64 bytes] w fun x w' => x = .returned (.tuple #[]) ∧ DiskAt base D gS A cW (crashW keep torn n S W W.length) [] w' ∧ Touch D gS A w w' := by
  have q1 : w.cell? ⟨D, 1, none⟩ = some (.slice A W.length cW) := (blk_cell h.1 1).trans rfl
  have H := Aside0.mk h
  have HV := Aside0.mk hv
  have HWn := Aside0.mk hn
  have HK := Aside0.mk hk
  have HN := Aside0.mk hn16
  obtain ⟨cS0, hcS0, _⟩ := h.2.2.2.1
  have HDS := Aside0.mk (blk_ne h.1 hcS0 (by decide))
  have HON := Aside0.mk (own_ne h.2.2.2.2 hcS0)
  clear h hv hn hcS0 hk hn16
  go_enter Try.func26, Try.ntmps26
  go_wp2_with fail
  have HM := Aside0.mk (show True from trivial)
  go_loopg [18] W.length (fun kq v18 w' => ∃ j : Nat, v18 = .int .i64 (j : Int) ∧ Aside0 (j + kq = W.length) ∧ Aside0 (RowAt secC 16 74 gS (crashW keep torn n S W j) w') ∧ Aside0 (Touch gS gS none w w'))
  case atStart => exact ⟨0, rfl, ⟨by omega⟩, ⟨H.out.2.2.2.1⟩, ⟨Touch.refl _ _ _ _⟩⟩
  case round =>
    obtain ⟨j, rfl, HJ, HRS, HT⟩ := hrel
    have HD := Aside0.mk ((HT.out.block D (blk_lt H.out.1) HDS.out HDS.out (fun a ha => by cases ha)).trans H.out.1)
    have HO := Aside0.mk (own_touch H.out.2.2.2.2 HT.out (fun g hg => ⟨HON.out g hg, HON.out g hg, fun a ha => by cases ha⟩))
    have HKw := Aside0.mk (Kd.F_step HK.out (fun k hk1 hk2 => HT.out.block k hk2 hk1 hk1 (fun a ha => by cases ha)))
    by_cases hlt : j < W.length
    · obtain ⟨p, hp⟩ : ∃ p, W[j]? = some p := ⟨_, List.getElem?_eq_getElem hlt⟩
      have hpv := HV.out p (List.mem_of_getElem? hp)
      obtain ⟨gW, eA, _, cWr, hcW, _, hrow⟩ := wr_row HO.out (fun q hq => (HV.out q hq).2.2) (by omega)
      obtain ⟨cS, hcS, hcl, hrS⟩ := HRS.out
      have hlenS := crashW_len keep torn n S W j
      rw [hlenS] at hcl
      have HLS := Aside0.mk hlenS
      subst eA
      have HcS := Aside0.mk hcS
      have HrS := Aside0.mk hrS
      have Hcl := Aside0.mk hcl
      have HcW := Aside0.mk hcW
      have HP := Aside0.mk (hrow j p hp).2
      have HPl := Aside0.mk (hrow j p hp).1
      have HPz := Aside0.mk (show (wrC p).toArray.size = 17 by rw [List.size_toArray]; exact HPl.out)
      have HPi := Aside0.mk (show (Try.prog.info? 76).map (·.size) = some (wrC p).length by rw [HPl.out]; kernel_rfl)
      have HP16 := Aside0.mk (show (secC p.2).length = 16 by rw [secC_len]; exact hpv.2.2)
      have HPs := Aside0.mk (show (secC p.2).toArray.size = 16 by rw [List.size_toArray]; exact HP16.out)
      have HPj := Aside0.mk (show (Try.prog.info? 74).map (·.size) = some (secC p.2).length by rw [HP16.out]; kernel_rfl)
      have HQ := Aside0.mk hp
      have HPV := Aside0.mk hpv
      have p1 : decide ((j : Int) < (W.length : Int)) = true := decide_eq_true (by omega)
      have p2 := eq_true (show 0 ≤ (j : Int) by omega)
      have p3 := eq_true (show (j : Int) < (W.length : Int) by omega)
      have p4 := eq_true hpv.1
      have p5 := eq_true hpv.2.1
      have HLT := Aside0.mk hlt
      have Hfit := Aside0.mk (show p.1.toNat * 16 + 16 ≤ cS.size by have := hpv.1; have := hpv.2.1; omega)
      clear hcW hrow hp hlt hpv hcS hrS hcl q1 hlenS
      have rounds : ∀ {S' : List (List Int)}, S' = crashW keep torn n S W (j + 1) → True := fun _ => trivial
      by_cases ckl : j < keep.length
      · obtain ⟨adk, eAk, hxk⟩ := Kd.at_bool (Kd.F_now HKw.out) (j : Int) (by omega) (by omega)
        subst eAk
        rw [Int.toNat_natCast] at hxk
        have HXK := Aside0.mk hxk
        have e1 : rdOf false keep (j : Int) = keep.getD j false := by unfold rdOf; rw [Int.toNat_natCast]
        have k1' : decide ((j : Int) < (keep.length : Int)) = true := decide_eq_true (by omega)
        have k2' := eq_true (show (j : Int) < (keep.length : Int) by omega)
        clear hxk ckl
        by_cases ckb : keep.getD j false = true
        · have HKB := Aside0.mk ckb
          rw [e1, ckb] at HXK
          clear e1 ckb
          go_wp2_with (first | ((with_reducible refine gate_ (.load 76 (.tmp 21)) rfl ?_); refine wpList_load_at rfl 76 (.tmp 21) rfl gW (j * 17) ⟨gW, j * 17, none⟩ rfl rfl 76 cWr (wrC p) (0, 0) _ HcW.out HP.out Try.underlying76 rfl HPi.out ?_) | ((with_reducible refine gate_store (t := 76) (p := 9) rfl ?_); refine wpList_store_row rfl 76 _ _ rfl wr.heap.size _ rfl rfl 76 _ (blk_new wr _) (by rw [HPz.out]; kernel_rfl) (by rw [HPz.out]; rfl) (wrC_all p) ?_; obtain ⟨w2, hw2⟩ : ∃ w2, w2 = (wr.alloc (.cells #[.int .i64 0, .int .u8 0, .int .u8 0, .int .u8 0, .int .u8 0, .int .u8 0, .int .u8 0, .int .u8 0, .int .u8 0, .int .u8 0, .int .u8 0, .int .u8 0, .int .u8 0, .int .u8 0, .int .u8 0, .int .u8 0, .int .u8 0] 76)).setRow wr.heap.size (wrC p).toArray := ⟨_, rfl⟩; rw [← hw2]; have HB2 := Aside0.mk (show Below wr.heap.size wr w2 by rw [hw2]; exact bset (below_alloc (Below.refl _ _) _) (Nat.le_refl _) _); have HC2 := Aside0.mk (show w2.heap[wr.heap.size]? = some (.cells (wrC p).toArray 76 (0, 0)) by rw [hw2]; exact setRow_heap _ _ _ _ _ _ (blk_new wr _)); clear hw2; have q2 : w2.cell? ⟨wr.heap.size, 0, none⟩ = some (.int .i64 p.1) := (blk_cell HC2.out 0).trans rfl; have q3 : w2.cell? ⟨D, 0, none⟩ = some (.slice (some ⟨gS, 0, none⟩) S.length S.length) := (blk_cell (blk_below HD.out HB2.out) 0).trans rfl; have HcS2 := Aside0.mk (blk_below HcS.out HB2.out); have qk : w2.cell? (adk.add j) = some (.bool true) := kfact HXK.out HB2.out))
          go_still_tail 9, (by kernel_rfl)
          refine wpStill_load_at rfl 74 (.tmp 40) rfl wr.heap.size 1 ⟨wr.heap.size, 1, none⟩ rfl rfl 76 (wrC p).toArray (secC p.2) (0, 0) _ (blk_drew HC2.out) (wr_tail p) Try.underlying74 rfl HPj.out ?_
          repeat still_step
          refine wpStill_nil ?_
          change wpList _ _ _ _ _ w2.drew
          refine wpList_store_at rfl 74 (.tmp 42) (.tmp 41) rfl gS (p.1.toNat * 16) ⟨gS, p.1.toNat * 16, none⟩ (secC p.2).toArray rfl rfl rfl 74 cS (blk_drew HcS2.out) (by rw [HPs.out]; kernel_rfl) (by rw [HPs.out]; exact Hfit.out) (secC_all p.2) ?_
          obtain ⟨w3, hw3⟩ : ∃ w3, w3 = w2.drew.setRow gS (splice cS.toList (p.1.toNat * 16) (secC p.2).toArray.toList).toArray := ⟨_, rfl⟩
          rw [← hw3]
          have HT3 := Aside0.mk (show Touch gS gS none w w3 by rw [hw3]; exact ((HT.out.below HB2.out).drew).row _)
          have HR3 := Aside0.mk (show RowAt secC 16 74 gS ((crashW keep torn n S W j).set p.1.toNat p.2) w3 by
            rw [hw3]
            have hlen := HLS.out
            have hp1 := HPV.out
            exact RowAt.set (blk_drew HcS2.out) (by rw [hlen]; exact Hcl.out) HrS.out (by rw [hlen]; omega) HP16.out)
          clear hw3 q2 q3
          go_wp2
          obtain ⟨k1, rfl⟩ : ∃ k1, gk = k1 + 1 := ⟨gk - 1, by have := HJ.out; have := HLT.out; omega⟩
          go_roundg k1
          case measure => omega
          case rel =>
            refine ⟨j + 1, ?_, ⟨by have := HJ.out; omega⟩, ⟨?_⟩, HT3⟩
            · exact congrArg (Value.int .i64) (widx (by have := HLT.out; have := HWn.out; omega))
            · rw [crashW_step HQ.out, crashS, if_pos HKB.out]
              exact HR3.out
        · have HKB := Aside0.mk ckb
          rw [e1, Bool.eq_false_iff.mpr ckb] at HXK
          clear e1 ckb
          by_cases ct : (j : Int) = torn
          · have HTB := Aside0.mk ct
            have ctb : ((j : Int) == torn) = true := beq_iff_eq.mpr ct
            clear ct
            go_wp2_with (first | ((with_reducible refine gate_ (.load 76 (.tmp 21)) rfl ?_); refine wpList_load_at rfl 76 (.tmp 21) rfl gW (j * 17) ⟨gW, j * 17, none⟩ rfl rfl 76 cWr (wrC p) (0, 0) _ HcW.out HP.out Try.underlying76 rfl HPi.out ?_) | ((with_reducible refine gate_store (t := 76) (p := 9) rfl ?_); refine wpList_store_row rfl 76 _ _ rfl wr.heap.size _ rfl rfl 76 _ (blk_new wr _) (by rw [HPz.out]; kernel_rfl) (by rw [HPz.out]; rfl) (wrC_all p) ?_; obtain ⟨w2, hw2⟩ : ∃ w2, w2 = (wr.alloc (.cells #[.int .i64 0, .int .u8 0, .int .u8 0, .int .u8 0, .int .u8 0, .int .u8 0, .int .u8 0, .int .u8 0, .int .u8 0, .int .u8 0, .int .u8 0, .int .u8 0, .int .u8 0, .int .u8 0, .int .u8 0, .int .u8 0, .int .u8 0] 76)).setRow wr.heap.size (wrC p).toArray := ⟨_, rfl⟩; rw [← hw2]; have HB2 := Aside0.mk (show Below wr.heap.size wr w2 by rw [hw2]; exact bset (below_alloc (Below.refl _ _) _) (Nat.le_refl _) _); have HC2 := Aside0.mk (show w2.heap[wr.heap.size]? = some (.cells (wrC p).toArray 76 (0, 0)) by rw [hw2]; exact setRow_heap _ _ _ _ _ _ (blk_new wr _)); clear hw2; have q2 : w2.cell? ⟨wr.heap.size, 0, none⟩ = some (.int .i64 p.1) := (blk_cell HC2.out 0).trans rfl; have q3 : w2.cell? ⟨D, 0, none⟩ = some (.slice (some ⟨gS, 0, none⟩) S.length S.length) := (blk_cell (blk_below HD.out HB2.out) 0).trans rfl; have HcS2 := Aside0.mk (blk_below HcS.out HB2.out); have qk : w2.cell? (adk.add j) = some (.bool false) := kfact HXK.out HB2.out))
            have hsl := slice54 gS (p.1.toNat * 16) n HN.out w2.drew
            go_still_tail 11, (by kernel_rfl)
            change wpList _ _ _ _ _ w2.drew
            obtain ⟨old, hold⟩ : ∃ old, (crashW keep torn n S W j)[p.1.toNat]? = some old := ⟨_, List.getElem?_eq_getElem (by rw [HLS.out]; have := HPV.out; omega)⟩
            have HOLD := Aside0.mk hold
            have HTL := Aside0.mk (show (secC (p.2.take n)).length = n by rw [secC_len, List.length_take]; have h1 := HP16.out; rw [secC_len] at h1; have := HN.out; omega)
            clear hold hsl
            refine wpList_copy_own rfl (.tmp 55) (.tmp 57) 28 28 rfl 5 Try.underlying28 (by kernel_rfl) gS (p.1.toNat * 16) n 16 ⟨wr.heap.size, 1, none⟩ 16 16 rfl rfl cS 74 (blk_drew HcS2.out) (secC (p.2.take n)) (by rw [HTL.out]; exact (Nat.min_eq_right HN.out).symm) (src_cells (blk_drew HC2.out)) (by rw [HTL.out]; have := Hfit.out; have := HN.out; omega) (sec_oneCell _) ?_
            obtain ⟨w3, hw3⟩ : ∃ w3, w3 = w2.drew.setRow gS (splice cS.toList (p.1.toNat * 16) (secC (p.2.take n))).toArray := ⟨_, rfl⟩
            change wpList _ _ _ _ _ (w2.drew.setRow gS (splice cS.toList (p.1.toNat * 16) (secC (p.2.take n))).toArray)
            rw [← hw3]
            have HT3 := Aside0.mk (show Touch gS gS none w w3 by rw [hw3]; exact ((HT.out.below HB2.out).drew).row _)
            have HR3 := Aside0.mk (show RowAt secC 16 74 gS ((crashW keep torn n S W j).set p.1.toNat (p.2.take n ++ old.drop n)) w3 by
              rw [hw3]
              have hlen := HLS.out
              have hp1 := HPV.out
              exact RowAt.setTake (blk_drew HcS2.out) (by rw [hlen]; exact Hcl.out) HrS.out (by rw [hlen]; omega) HOLD.out HP16.out HN.out)
            clear hw3 q2 q3
            go_wp2
            obtain ⟨k1, rfl⟩ : ∃ k1, gk = k1 + 1 := ⟨gk - 1, by have := HJ.out; have := HLT.out; omega⟩
            go_roundg k1
            case measure => omega
            case rel =>
              refine ⟨j + 1, ?_, ⟨by have := HJ.out; omega⟩, ⟨?_⟩, HT3⟩
              · exact congrArg (Value.int .i64) (widx (by have := HLT.out; have := HWn.out; omega))
              · rw [crashW_step HQ.out, crashS, if_neg HKB.out, if_pos HTB.out, List.getD_eq_getElem?_getD, HOLD.out, Option.getD_some]
                exact HR3.out
          · have HTB := Aside0.mk ct
            have ctb : ((j : Int) == torn) = false := beq_eq_false_iff_ne.mpr ct
            clear ct
            go_wp2_with (first | ((with_reducible refine gate_ (.load 76 (.tmp 21)) rfl ?_); refine wpList_load_at rfl 76 (.tmp 21) rfl gW (j * 17) ⟨gW, j * 17, none⟩ rfl rfl 76 cWr (wrC p) (0, 0) _ HcW.out HP.out Try.underlying76 rfl HPi.out ?_) | ((with_reducible refine gate_store (t := 76) (p := 9) rfl ?_); refine wpList_store_row rfl 76 _ _ rfl wr.heap.size _ rfl rfl 76 _ (blk_new wr _) (by rw [HPz.out]; kernel_rfl) (by rw [HPz.out]; rfl) (wrC_all p) ?_; obtain ⟨w2, hw2⟩ : ∃ w2, w2 = (wr.alloc (.cells #[.int .i64 0, .int .u8 0, .int .u8 0, .int .u8 0, .int .u8 0, .int .u8 0, .int .u8 0, .int .u8 0, .int .u8 0, .int .u8 0, .int .u8 0, .int .u8 0, .int .u8 0, .int .u8 0, .int .u8 0, .int .u8 0, .int .u8 0] 76)).setRow wr.heap.size (wrC p).toArray := ⟨_, rfl⟩; rw [← hw2]; have HB2 := Aside0.mk (show Below wr.heap.size wr w2 by rw [hw2]; exact bset (below_alloc (Below.refl _ _) _) (Nat.le_refl _) _); have HC2 := Aside0.mk (show w2.heap[wr.heap.size]? = some (.cells (wrC p).toArray 76 (0, 0)) by rw [hw2]; exact setRow_heap _ _ _ _ _ _ (blk_new wr _)); clear hw2; have q2 : w2.cell? ⟨wr.heap.size, 0, none⟩ = some (.int .i64 p.1) := (blk_cell HC2.out 0).trans rfl; have q3 : w2.cell? ⟨D, 0, none⟩ = some (.slice (some ⟨gS, 0, none⟩) S.length S.length) := (blk_cell (blk_below HD.out HB2.out) 0).trans rfl; have HcS2 := Aside0.mk (blk_below HcS.out HB2.out); have qk : w2.cell? (adk.add j) = some (.bool false) := kfact HXK.out HB2.out))
            have HT3 := Aside0.mk (HT.out.below HB2.out)
            have HR3 := Aside0.mk (HRS.out.below HB2.out)
            obtain ⟨k1, rfl⟩ : ∃ k1, gk = k1 + 1 := ⟨gk - 1, by have := HJ.out; have := HLT.out; omega⟩
            go_roundg k1
            case measure => omega
            case rel =>
              refine ⟨j + 1, ?_, ⟨by have := HJ.out; omega⟩, ⟨?_⟩, HT3⟩
              · exact congrArg (Value.int .i64) (widx (by have := HLT.out; have := HWn.out; omega))
              · rw [crashW_step HQ.out, crashS, if_neg HKB.out, if_neg HTB.out]
                exact HR3.out
      · have HKB := Aside0.mk (show ¬ keep.getD j false = true by rw [List.getD_eq_getElem?_getD, List.getElem?_eq_none (by omega)]; decide)
        have k1' : decide ((j : Int) < (keep.length : Int)) = false := decide_eq_false (by omega)
        have k3' : decide (j < keep.length) = false := decide_eq_false ckl
        by_cases ct : (j : Int) = torn
        · have HTB := Aside0.mk ct
          have ctb : ((j : Int) == torn) = true := beq_iff_eq.mpr ct
          clear ct
          go_wp2_with (first | ((with_reducible refine gate_ (.load 76 (.tmp 21)) rfl ?_); refine wpList_load_at rfl 76 (.tmp 21) rfl gW (j * 17) ⟨gW, j * 17, none⟩ rfl rfl 76 cWr (wrC p) (0, 0) _ HcW.out HP.out Try.underlying76 rfl HPi.out ?_) | ((with_reducible refine gate_store (t := 76) (p := 9) rfl ?_); refine wpList_store_row rfl 76 _ _ rfl wr.heap.size _ rfl rfl 76 _ (blk_new wr _) (by rw [HPz.out]; kernel_rfl) (by rw [HPz.out]; rfl) (wrC_all p) ?_; obtain ⟨w2, hw2⟩ : ∃ w2, w2 = (wr.alloc (.cells #[.int .i64 0, .int .u8 0, .int .u8 0, .int .u8 0, .int .u8 0, .int .u8 0, .int .u8 0, .int .u8 0, .int .u8 0, .int .u8 0, .int .u8 0, .int .u8 0, .int .u8 0, .int .u8 0, .int .u8 0, .int .u8 0, .int .u8 0] 76)).setRow wr.heap.size (wrC p).toArray := ⟨_, rfl⟩; rw [← hw2]; have HB2 := Aside0.mk (show Below wr.heap.size wr w2 by rw [hw2]; exact bset (below_alloc (Below.refl _ _) _) (Nat.le_refl _) _); have HC2 := Aside0.mk (show w2.heap[wr.heap.size]? = some (.cells (wrC p).toArray 76 (0, 0)) by rw [hw2]; exact setRow_heap _ _ _ _ _ _ (blk_new wr _)); clear hw2; have q2 : w2.cell? ⟨wr.heap.size, 0, none⟩ = some (.int .i64 p.1) := (blk_cell HC2.out 0).trans rfl; have q3 : w2.cell? ⟨D, 0, none⟩ = some (.slice (some ⟨gS, 0, none⟩) S.length S.length) := (blk_cell (blk_below HD.out HB2.out) 0).trans rfl; have HcS2 := Aside0.mk (blk_below HcS.out HB2.out)))
          have hsl := slice54 gS (p.1.toNat * 16) n HN.out w2.drew
          go_still_tail 11, (by kernel_rfl)
          change wpList _ _ _ _ _ w2.drew
          obtain ⟨old, hold⟩ : ∃ old, (crashW keep torn n S W j)[p.1.toNat]? = some old := ⟨_, List.getElem?_eq_getElem (by rw [HLS.out]; have := HPV.out; omega)⟩
          have HOLD := Aside0.mk hold
          have HTL := Aside0.mk (show (secC (p.2.take n)).length = n by rw [secC_len, List.length_take]; have h1 := HP16.out; rw [secC_len] at h1; have := HN.out; omega)
          clear hold hsl
          refine wpList_copy_own rfl (.tmp 55) (.tmp 57) 28 28 rfl 5 Try.underlying28 (by kernel_rfl) gS (p.1.toNat * 16) n 16 ⟨wr.heap.size, 1, none⟩ 16 16 rfl rfl cS 74 (blk_drew HcS2.out) (secC (p.2.take n)) (by rw [HTL.out]; exact (Nat.min_eq_right HN.out).symm) (src_cells (blk_drew HC2.out)) (by rw [HTL.out]; have := Hfit.out; have := HN.out; omega) (sec_oneCell _) ?_
          obtain ⟨w3, hw3⟩ : ∃ w3, w3 = w2.drew.setRow gS (splice cS.toList (p.1.toNat * 16) (secC (p.2.take n))).toArray := ⟨_, rfl⟩
          change wpList _ _ _ _ _ (w2.drew.setRow gS (splice cS.toList (p.1.toNat * 16) (secC (p.2.take n))).toArray)
          rw [← hw3]
          have HT3 := Aside0.mk (show Touch gS gS none w w3 by rw [hw3]; exact ((HT.out.below HB2.out).drew).row _)
          have HR3 := Aside0.mk (show RowAt secC 16 74 gS ((crashW keep torn n S W j).set p.1.toNat (p.2.take n ++ old.drop n)) w3 by
            rw [hw3]
            have hlen := HLS.out
            have hp1 := HPV.out
            exact RowAt.setTake (blk_drew HcS2.out) (by rw [hlen]; exact Hcl.out) HrS.out (by rw [hlen]; omega) HOLD.out HP16.out HN.out)
          clear hw3 q2 q3
          go_wp2
          obtain ⟨k1, rfl⟩ : ∃ k1, gk = k1 + 1 := ⟨gk - 1, by have := HJ.out; have := HLT.out; omega⟩
          go_roundg k1
          case measure => omega
          case rel =>
            refine ⟨j + 1, ?_, ⟨by have := HJ.out; omega⟩, ⟨?_⟩, HT3⟩
            · exact congrArg (Value.int .i64) (widx (by have := HLT.out; have := HWn.out; omega))
            · rw [crashW_step HQ.out, crashS, if_neg HKB.out, if_pos HTB.out, List.getD_eq_getElem?_getD, HOLD.out, Option.getD_some]
              exact HR3.out
        · have HTB := Aside0.mk ct
          have ctb : ((j : Int) == torn) = false := beq_eq_false_iff_ne.mpr ct
          clear ct
          go_wp2_with (first | ((with_reducible refine gate_ (.load 76 (.tmp 21)) rfl ?_); refine wpList_load_at rfl 76 (.tmp 21) rfl gW (j * 17) ⟨gW, j * 17, none⟩ rfl rfl 76 cWr (wrC p) (0, 0) _ HcW.out HP.out Try.underlying76 rfl HPi.out ?_) | ((with_reducible refine gate_store (t := 76) (p := 9) rfl ?_); refine wpList_store_row rfl 76 _ _ rfl wr.heap.size _ rfl rfl 76 _ (blk_new wr _) (by rw [HPz.out]; kernel_rfl) (by rw [HPz.out]; rfl) (wrC_all p) ?_; obtain ⟨w2, hw2⟩ : ∃ w2, w2 = (wr.alloc (.cells #[.int .i64 0, .int .u8 0, .int .u8 0, .int .u8 0, .int .u8 0, .int .u8 0, .int .u8 0, .int .u8 0, .int .u8 0, .int .u8 0, .int .u8 0, .int .u8 0, .int .u8 0, .int .u8 0, .int .u8 0, .int .u8 0, .int .u8 0] 76)).setRow wr.heap.size (wrC p).toArray := ⟨_, rfl⟩; rw [← hw2]; have HB2 := Aside0.mk (show Below wr.heap.size wr w2 by rw [hw2]; exact bset (below_alloc (Below.refl _ _) _) (Nat.le_refl _) _); have HC2 := Aside0.mk (show w2.heap[wr.heap.size]? = some (.cells (wrC p).toArray 76 (0, 0)) by rw [hw2]; exact setRow_heap _ _ _ _ _ _ (blk_new wr _)); clear hw2; have q2 : w2.cell? ⟨wr.heap.size, 0, none⟩ = some (.int .i64 p.1) := (blk_cell HC2.out 0).trans rfl; have q3 : w2.cell? ⟨D, 0, none⟩ = some (.slice (some ⟨gS, 0, none⟩) S.length S.length) := (blk_cell (blk_below HD.out HB2.out) 0).trans rfl; have HcS2 := Aside0.mk (blk_below HcS.out HB2.out)))
          have HT3 := Aside0.mk (HT.out.below HB2.out)
          have HR3 := Aside0.mk (HRS.out.below HB2.out)
          obtain ⟨k1, rfl⟩ : ∃ k1, gk = k1 + 1 := ⟨gk - 1, by have := HJ.out; have := HLT.out; omega⟩
          go_roundg k1
          case measure => omega
          case rel =>
            refine ⟨j + 1, ?_, ⟨by have := HJ.out; omega⟩, ⟨?_⟩, HT3⟩
            · exact congrArg (Value.int .i64) (widx (by have := HLT.out; have := HWn.out; omega))
            · rw [crashW_step HQ.out, crashS, if_neg HKB.out, if_neg HTB.out]
              exact HR3.out
    · obtain rfl : j = W.length := by have := HJ.out; omega
      have p1 : decide (((W.length : Nat) : Int) < (W.length : Int)) = false := decide_eq_false (by omega)
      clear hlt q1
      obtain ⟨hcap, g, cur, hgA⟩ := wait_row HO.out
      have HG := Aside0.mk hgA
      have HCAP := Aside0.mk hcap
      clear hgA hcap
      go_wp2_with fail
      refine (forget_walk D D (.slice (some ⟨gS, 0, none⟩) S.length S.length) A W.length cW g cur wr HD.out (by rcases HG.out with h | h; exact .inl h.1; exact .inr ⟨h.1, h.2.1, h.2.2.1⟩) HCAP.out).mono ?_
      rintro x w4 ⟨rfl, hD4, hG4, hT4⟩
      have HD4 := Aside0.mk hD4
      have HG4 := Aside0.mk hG4
      have HT4 := Aside0.mk hT4
      clear hD4 hG4 hT4
      go_wp2
      go_end0
      exact ⟨rfl, forgot (crashW_len keep torn n S W W.length) H.out.2.1 H.out.2.2.1 HD.out HRS.out HG.out HD4.out HG4.out HT4.out, HT.out.two HT4.out⟩
theorem crash_walk (base D gS cW n : Nat) (A Ak : Option Addr) (ck : Nat) (S : List (List Int)) (W : List (Int × List Int)) (keep : List Bool) (torn bytes m1 : Int) (w : World) (h : DiskAt base D gS A cW S W w) (hv : ∀ p ∈ W, 0 ≤ p.1 ∧ p.1 < (S.length : Int) ∧ p.2.length = 16) (hn : W.length < 1099511627776)
    (hk : Kd.F Kd.bool w (fun k => k < base) Ak keep.length keep) (hm1 : (if bytes < 0 then (0 : Int) else bytes) = m1) (hm2 : (if 16 < m1 then (16 : Int) else m1) = (n : Int)) (hn16 : n ≤ 16) :
    Calls Try.prog 26 #[.pointer (some ⟨D, 0, none⟩), .slice Ak keep.length ck, .int .i64 torn, .int .i64 bytes] w fun x w' => x = .returned (.tuple #[]) ∧ DiskAt base D gS A cW (crashW keep torn n S W W.length) [] w' ∧ Touch D gS A w w' :=
  crash_walkK base D gS cW n A Ak ck S W keep torn bytes m1 w h hv hn (Kd.F_mono hk (fun k hk1 => by have := h.2.2.1; omega)) hm1 hm2 hn16
end Go.Proofs.Ytoafbpbnlmcklaa.PAll

namespace Go.Proofs.Ytoafbpbnlmcklaa.PAll
open Go.RowKit Go.Proofs.YtoafbpbnlmcklaaW.PrintWords Go.Proofs.YtoafbpbnlmcklaaW.PrintLast Go.Proofs.YtoafbpbnlmcklaaW.PrintMore
attribute [local go_sem] max2_int min2_int max_two min_two max_three min_three max_four min_four
set_option linter.unusedVariables false
set_option linter.unusedSimpArgs false
theorem info54 : ∃ i, Try.prog.info? 74 = some i ∧ i.zero = some (.agg #[.int .u8 0, .int .u8 0, .int .u8 0, .int .u8 0, .int .u8 0, .int .u8 0, .int .u8 0, .int .u8 0, .int .u8 0, .int .u8 0, .int .u8 0, .int .u8 0, .int .u8 0, .int .u8 0, .int .u8 0, .int .u8 0]) ∧ i.size = 16 ∧ i.bytes = 16 :=
  ⟨(Try.prog.info? 74).get (by kernel_rfl), (Option.some_get _).symm, by kernel_rfl, by kernel_rfl, by kernel_rfl⟩
theorem row_of_reps {g : Nat} {xs : List (List Int)} {w : World} {cur : Array Value} (hh : w.heap[g]? = some (.cells cur 74 (0, 0))) (hr : Reps (fun (p : List Int) c => c = secC p) 16 xs cur.toList) : RowAt secC 16 74 g xs w := by
  have hl : cur.size = xs.length * 16 := by have := hr.1; rwa [Array.length_toList] at this
  refine ⟨cur, hh, by omega, fun i x hx => ?_⟩
  have e := hr.2 i x hx
  simp only at e
  have hi : i < xs.length := (List.getElem?_eq_some_iff.1 hx).1
  refine ⟨by rw [← e, List.length_take, List.length_drop, Array.length_toList]; omega, fun j v hv => ?_⟩
  rw [← e, List.getElem?_take, List.getElem?_drop, Array.getElem?_toList] at hv
  split at hv
  · exact hv
  · cases hv
/-- A sector of noughts. -/
def zeroS : List Int := List.replicate 16 0
set_option maxHeartbeats 1000000 in
set_option maxRecDepth 100000 in
theorem new_walk (n m1 : Int) (m : Nat) (w : World) (hm1 : (if n < 1 then (1 : Int) else n) = m1) (hm2 : (if 512 < m1 then (512 : Int) else m1) = (m : Int)) (hm : m ≤ 512) :
    Calls Try.prog 10 #[.int .i64 n] w fun x w' => ∃ D gS, x = .returned (.pointer (some ⟨D, 0, none⟩)) ∧ DiskAt w.heap.size D gS none 0 (List.replicate m zeroS) [] w' ∧ Below w.heap.size w w' := by
  obtain ⟨i54, hi, hz, hsz, hby⟩ := info54
  have hmk := fun W => run_make (P := Try.prog) W 61 74 i54 _ Try.underlying61 hi hz .i64 .i64 (m : Int) (m : Int) (Int.natCast_nonneg m) (Int.le_refl _) (by rw [hby]; omega) (by omega)
  simp only [Int.toNat_natCast, hsz] at hmk
  obtain ⟨cur, hcur⟩ : ∃ cur, cur = madeCells (Value.agg #[.int .u8 0, .int .u8 0, .int .u8 0, .int .u8 0, .int .u8 0, .int .u8 0, .int .u8 0, .int .u8 0, .int .u8 0, .int .u8 0, .int .u8 0, .int .u8 0, .int .u8 0, .int .u8 0, .int .u8 0, .int .u8 0]).cells (m * 16) := ⟨_, rfl⟩
  rw [← hcur] at hmk
  have HCUR := Aside0.mk hcur
  clear hcur hi hz hsz hby
  go_enter Try.func10, Try.ntmps10
  go_wp2
  go_ret
  have hrep : Reps (fun (p : List Int) c => c = secC p) 16 (List.replicate m zeroS) cur.toList := by
    rw [HCUR.out]
    exact Kd.reps_made (R := fun (p : List Int) c => c = secC p) (z0 := zeroS) (size := 16) (z := .agg #[.int .u8 0, .int .u8 0, .int .u8 0, .int .u8 0, .int .u8 0, .int .u8 0, .int .u8 0, .int .u8 0, .int .u8 0, .int .u8 0, .int .u8 0, .int .u8 0, .int .u8 0, .int .u8 0, .int .u8 0, .int .u8 0]) rfl (by decide) rfl m
  have h0 : (w.alloc (.cells cur 74)).heap[w.heap.size]? = some (.cells cur 74 (0, 0)) := blk_new w _
  have h1 := blk_new (w.alloc (.cells cur 74)) (.cells #[.slice (some ⟨w.heap.size, 0, none⟩) m m, .slice none 0 0] 64)
  rw [show (w.alloc (.cells cur 74)).heap.size = w.heap.size + 1 by simp] at h1
  refine ⟨w.heap.size + 1, w.heap.size, rfl, ⟨?_, Nat.le_succ _, Nat.le_refl _, row_of_reps (blk_alloc h0 _) hrep, rfl, .inl ⟨rfl, rfl⟩⟩, below_alloc (below_alloc (Below.refl _ _) _) _⟩
  rw [List.length_replicate]
  exact h1
end Go.Proofs.Ytoafbpbnlmcklaa.PAll

namespace Go.Proofs.Ytoafbpbnlmcklaa.PAll
open Go.RowKit Go.Proofs.YtoafbpbnlmcklaaW.PrintWords Go.Proofs.YtoafbpbnlmcklaaW.PrintLast Go.Proofs.YtoafbpbnlmcklaaW.PrintMore
set_option linter.unusedVariables false
set_option linter.unusedSimpArgs false
theorem Touch.bel {B D gS : Nat} {A : Option Addr} {w0 w w' : World} (h : Touch D gS A w w') (hb : Below B w0 w) (hBw : B ≤ w.heap.size) (hD : B ≤ D) (hS : B ≤ gS) (hA : ∀ a, A = some a → B ≤ a.block) : Below B w0 w' :=
  ⟨h.os.trans hb.os, h.tape.trans hb.tape, h.output.trans hb.output, Nat.le_trans hb.size h.size, fun k hk => (h.block k (by omega) (by omega) (by omega) (fun a ha => by have := hA a ha; omega)).trans (hb.block k hk)⟩
theorem DiskAt.base {base D gS cW : Nat} {A : Option Addr} {S : List (List Int)} {W : List (Int × List Int)} {w : World} (h : DiskAt base D gS A cW S W w) : base ≤ D ∧ base ≤ gS ∧ (∀ a, A = some a → base ≤ a.block) ∧ base ≤ w.heap.size :=
  ⟨h.2.1, h.2.2.1, blk_of_base h, by have := h.2.1; have := blk_lt h.1; omega⟩
theorem C_cells {w : World} {ad : Addr} {n : Nat} {l : List Int} (h : Kd.C (Kd.int .u8) w (some ad) n l) : ∀ j v, (secC l)[j]? = some v → w.cell? (ad.add j) = some v := by
  intro j v hv
  rw [secC, List.getElem?_map] at hv
  obtain ⟨x, hx, rfl⟩ := Option.map_eq_some_iff.1 hv
  have hj : j < l.length := (List.getElem?_eq_some_iff.1 hx).1
  have hn := h.1
  obtain ⟨ad', he, hc⟩ := Kd.at_int h (j : Int) (by omega) (by omega)
  cases he
  have e : rd l (j : Int) = x := by unfold rd; rw [Int.toNat_natCast, List.getD_eq_getElem?_getD, hx]; rfl
  rw [e] at hc
  simpa using hc
end Go.Proofs.Ytoafbpbnlmcklaa.PAll

namespace Go.Proofs.Ytoafbpbnlmcklaa.PAll
open Go.RowKit Go.Proofs.YtoafbpbnlmcklaaW.PrintWords Go.Proofs.YtoafbpbnlmcklaaW.PrintLast Go.Proofs.YtoafbpbnlmcklaaW.PrintMore
theorem len16 {l : List Int} (h : l.length = 16) : ∃ x0 x1 x2 x3 x4 x5 x6 x7 x8 x9 x10 x11 x12 x13 x14 x15 : Int, l = [x0, x1, x2, x3, x4, x5, x6, x7, x8, x9, x10, x11, x12, x13, x14, x15] := by
  rcases l with _ | ⟨x0, _ | ⟨x1, _ | ⟨x2, _ | ⟨x3, _ | ⟨x4, _ | ⟨x5, _ | ⟨x6, _ | ⟨x7, _ | ⟨x8, _ | ⟨x9, _ | ⟨x10, _ | ⟨x11, _ | ⟨x12, _ | ⟨x13, _ | ⟨x14, _ | ⟨x15, _ | ⟨x16, l⟩⟩⟩⟩⟩⟩⟩⟩⟩⟩⟩⟩⟩⟩⟩⟩⟩ <;> simp at h
  exact ⟨x0, x1, x2, x3, x4, x5, x6, x7, x8, x9, x10, x11, x12, x13, x14, x15, rfl⟩
theorem own5 {base : Nat} {ok : Nat → Prop} {v : Value} {l : List Int} {w : World} (h : Kd.R (Kd.int .u8) 5 w base ok v l) (hl : 0 < l.length) : ∃ g cap cur, v = .slice (some ⟨g, 0, none⟩) l.length cap ∧ base ≤ g ∧ w.heap[g]? = some (.cells cur 5 (0, 0)) ∧ l.length ≤ cur.size := by
  have ho := Kd.own_of_R h
  rcases ho.2 with ⟨_, h0⟩ | ⟨g, cap, cur, he, hg, hh, hc, _, hs, _⟩
  · omega
  · exact ⟨g, cap, cur, he, hg, hh, by rw [hs]; omega⟩
theorem DiskAt.far5 {base D gS cW g : Nat} {A : Option Addr} {S : List (List Int)} {W : List (Int × List Int)} {w : World} {cur : Array Value} (h : DiskAt base D gS A cW S W w) (hg : w.heap[g]? = some (.cells cur 5 (0, 0))) (i : Nat) (u : Value) : DiskAt base D gS A cW S W (w.setCell ⟨g, i, none⟩ u) := by
  obtain ⟨hD, hb, hbS, ⟨cS, hcS, h1, h2⟩, hO⟩ := h
  refine ⟨blk_far hD (p := ⟨g, i, none⟩) (blk_ne hD hg (by decide)) u, hb, hbS, ⟨cS, blk_far hcS (p := ⟨g, i, none⟩) (blk_ne hcS hg (by decide)) u, h1, h2⟩, hO.1, ?_⟩
  rcases hO.2 with h0 | ⟨g', cap, cur', he, hg', hh, hc⟩
  · exact .inl h0
  · exact .inr ⟨g', cap, cur', he, hg', blk_far hh (p := ⟨g, i, none⟩) (blk_ne hh hg (by decide)) u, hc⟩
theorem Touch.blk5 {base D gS cW g : Nat} {A : Option Addr} {S : List (List Int)} {W : List (Int × List Int)} {w w' : World} {cur : Array Value} (h : Touch D gS A w w') (hd : DiskAt base D gS A cW S W w) (hg : w.heap[g]? = some (.cells cur 5 (0, 0))) : w'.heap[g]? = some (.cells cur 5 (0, 0)) := by
  obtain ⟨hD, hb, hbS, ⟨cS, hcS, h1, h2⟩, hO⟩ := hd
  refine (h.block g (blk_lt hg) (blk_ne hg hD (by decide)) (blk_ne hg hcS (by decide)) (fun a ha => ?_)).trans hg
  rcases hO.2 with ⟨he, _⟩ | ⟨g', cap, cur', he, hg', hh, hc⟩
  · injection he with hA
    rw [hA] at ha; cases ha
  · injection he with hA
    rw [hA] at ha
    obtain rfl := Option.some.inj ha
    exact blk_ne hg hh (by decide)
theorem blk5_cell {w : World} {g : Nat} {cur : Array Value} (h : w.heap[g]? = some (.cells cur 5 (0, 0))) {j : Nat} (hj : j < cur.size) : ∃ u, w.cell? ⟨g, j, none⟩ = some u := ⟨cur[j], (blk_cell h j).trans (Array.getElem?_eq_getElem hj)⟩
end Go.Proofs.Ytoafbpbnlmcklaa.PAll

namespace Go.Proofs.Ytoafbpbnlmcklaa.PAll
open Go.RowKit Go.Proofs.YtoafbpbnlmcklaaW.PrintWords Go.Proofs.YtoafbpbnlmcklaaW.PrintLast Go.Proofs.YtoafbpbnlmcklaaW.PrintMore
set_option linter.unusedVariables false
theorem C_blk {w w' : World} {g n : Nat} {cur : Array Value} {e : TypeId} {l : List Int} (h : Kd.C (Kd.int .u8) w (some ⟨g, 0, none⟩) n l) (h1 : w.heap[g]? = some (.cells cur e (0, 0))) (h2 : w'.heap[g]? = some (.cells cur e (0, 0))) : Kd.C (Kd.int .u8) w' (some ⟨g, 0, none⟩) n l := by
  refine ⟨h.1, h.2.1, fun hn => ?_⟩
  obtain ⟨ad, he, hh⟩ := h.2.2 hn
  obtain rfl := Option.some.inj he
  refine ⟨_, rfl, fun j p hp => ?_⟩
  obtain ⟨c, hl, hK, hc⟩ := hh j p hp
  refine ⟨c, hl, hK, fun i u hu => ?_⟩
  have := hc i u hu
  rw [add_zero_at, cell_of_row w g _ _ _ _ h1] at this
  rw [add_zero_at, cell_of_row w' g _ _ _ _ h2]
  exact this
theorem mm (n : Int) : ∃ (m1 : Int) (m : Nat), (if n < 1 then (1 : Int) else n) = m1 ∧ (if 512 < m1 then (512 : Int) else m1) = (m : Int) ∧ m ≤ 512 ∧ 1 ≤ m := by
  by_cases c : n < 1
  · exact ⟨1, 1, by rw [if_pos c], by decide, by decide, by decide⟩
  · by_cases d : 512 < n
    · exact ⟨n, 512, by rw [if_neg c], by rw [if_pos d]; rfl, by decide, by decide⟩
    · exact ⟨n, n.toNat, by rw [if_neg c], by rw [if_neg d]; omega, by omega, by omega⟩
/-- A sector behind writes is what is read of it. -/
theorem applyW_get (i : Int) (h0 : 0 ≤ i) : ∀ (W : List (Int × List Int)) (S : List (List Int)) (s : List Int), (∀ p ∈ W, 0 ≤ p.1 ∧ p.1 < (S.length : Int)) → S[i.toNat]? = some s → (applyW S W)[i.toNat]? = some (readW i W s)
  | [], S, s, _, hs => hs
  | p :: W, S, s, hv, hs => by
    have hp := hv p (by simp)
    show (applyW (S.set p.1.toNat p.2) W)[i.toNat]? = some (readW i W (if p.1 = i then p.2 else s))
    refine applyW_get i h0 W _ _ (fun q hq => by rw [List.length_set]; exact hv q (by simp [hq])) ?_
    have hi : i.toNat < S.length := (List.getElem?_eq_some_iff.1 hs).1
    by_cases c : p.1 = i
    · rw [if_pos c, c, List.getElem?_set_self hi]
    · rw [if_neg c, List.getElem?_set_ne (by omega)]
      exact hs
theorem applyW_16 : ∀ (W : List (Int × List Int)) (S : List (List Int)), (∀ p ∈ W, p.2.length = 16) → (∀ s ∈ S, s.length = 16) → ∀ s ∈ applyW S W, s.length = 16
  | [], S, _, hS => hS
  | p :: W, S, hW, hS => by
    refine applyW_16 W (S.set p.1.toNat p.2) (fun q hq => hW q (by simp [hq])) (fun s hs => ?_)
    rcases List.mem_or_eq_of_mem_set hs with h | h
    · exact hS s h
    · rw [h]; exact hW p (by simp)
theorem len_walk (base D gS cW : Nat) (A : Option Addr) (S : List (List Int)) (W : List (Int × List Int)) (w : World) (h : DiskAt base D gS A cW S W w) :
    Calls Try.prog 22 #[.pointer (some ⟨D, 0, none⟩)] w fun x w' => x = .returned (.int .i64 (S.length : Int)) ∧ w' = w := by
  have q0 : w.cell? ⟨D, 0, none⟩ = some (.slice (some ⟨gS, 0, none⟩) S.length S.length) := (blk_cell h.1 0).trans rfl
  clear h
  go_enter Try.func22, Try.ntmps22
  go_wp2
  go_ret
  exact ⟨rfl, rfl⟩
theorem waiting_walk (base D gS cW : Nat) (A : Option Addr) (S : List (List Int)) (W : List (Int × List Int)) (w : World) (h : DiskAt base D gS A cW S W w) :
    Calls Try.prog 21 #[.pointer (some ⟨D, 0, none⟩)] w fun x w' => x = .returned (.int .i64 (W.length : Int)) ∧ w' = w := by
  have q1 : w.cell? ⟨D, 1, none⟩ = some (.slice A W.length cW) := (blk_cell h.1 1).trans rfl
  clear h
  go_enter Try.func21, Try.ntmps21
  go_wp2
  go_ret
  exact ⟨rfl, rfl⟩
/-- What is known of a disk's parts. -/
structure Parts (m j : Nat) (S : List (List Int)) (W : List (Int × List Int)) : Prop where
  len : S.length = m
  s16 : ∀ s ∈ S, s.length = 16
  val : ∀ p ∈ W, 0 ≤ p.1 ∧ p.1 < (S.length : Int) ∧ p.2.length = 16
  few : W.length ≤ j
theorem Parts.new (m : Nat) : Parts m 0 (List.replicate m zeroS) [] :=
  ⟨List.length_replicate, fun s hs => by rw [List.eq_of_mem_replicate hs]; rfl, by simp, Nat.le_refl _⟩
theorem Parts.mono {m j j' : Nat} {S : List (List Int)} {W : List (Int × List Int)} (h : Parts m j S W) (hj : j ≤ j') : Parts m j' S W := ⟨h.len, h.s16, h.val, Nat.le_trans h.few hj⟩
theorem Parts.sync {m j : Nat} {S : List (List Int)} {W : List (Int × List Int)} (h : Parts m j S W) : Parts m (j + 1) (applyW S W) [] :=
  ⟨(applyW_len W S).trans h.len, applyW_16 W S (fun p hp => (h.val p hp).2.2) h.s16, by simp, by simp⟩
theorem Parts.write {m j : Nat} {S : List (List Int)} {W : List (Int × List Int)} (h : Parts m j S W) (i : Int) (b : List Int) (h0 : 0 ≤ i) (h1 : i < (S.length : Int)) (hb : b.length = 16) : Parts m (j + 1) S (W ++ [(i, b)]) :=
  ⟨h.len, h.s16, fun p hp => by rcases List.mem_append.1 hp with hp | hp; exact h.val p hp; rw [List.mem_singleton] at hp; subst hp; exact ⟨h0, h1, hb⟩, by rw [List.length_append]; have := h.few; simp; omega⟩
end Go.Proofs.Ytoafbpbnlmcklaa.PAll

namespace Go.Proofs.Ytoafbpbnlmcklaa.PAll
open Go.RowKit Go.Proofs.YtoafbpbnlmcklaaW.PrintWords Go.Proofs.YtoafbpbnlmcklaaW.PrintLast Go.Proofs.YtoafbpbnlmcklaaW.PrintMore
set_option linter.unusedVariables false
theorem bytes_few (bytes : Int) : ∃ (m1 : Int) (n : Nat), (if bytes < 0 then (0 : Int) else bytes) = m1 ∧ (if 16 < m1 then (16 : Int) else m1) = (n : Int) ∧ n ≤ 16 := by
  by_cases c : bytes < 0
  · exact ⟨0, 0, by rw [if_pos c], by decide, by decide⟩
  · by_cases d : 16 < bytes
    · exact ⟨bytes, 16, by rw [if_neg c], by rw [if_pos d]; rfl, by decide⟩
    · exact ⟨bytes, bytes.toNat, by rw [if_neg c], by rw [if_neg d]; omega, by omega⟩
theorem crashS_16 {keep : List Bool} {torn : Int} {n j : Nat} {S : List (List Int)} {p : Int × List Int} (hn : n ≤ 16) (hS : ∀ s ∈ S, s.length = 16) (hp : 0 ≤ p.1 ∧ p.1 < (S.length : Int) ∧ p.2.length = 16) : ∀ s ∈ crashS keep torn n S j p, s.length = 16 := by
  intro s hs
  unfold crashS at hs
  split at hs
  · rcases List.mem_or_eq_of_mem_set hs with h | h
    · exact hS s h
    · rw [h]; exact hp.2.2
  · split at hs
    · rcases List.mem_or_eq_of_mem_set hs with h | h
      · exact hS s h
      · have hlt : p.1.toNat < S.length := by omega
        have h16 : (S.getD p.1.toNat []).length = 16 := by
          rw [List.getD_eq_getElem?_getD, List.getElem?_eq_getElem hlt, Option.getD_some]
          exact hS _ (List.getElem_mem hlt)
        rw [h, List.length_append, List.length_take, List.length_drop, h16, hp.2.2]
        omega
    · exact hS s hs
theorem crashW_16 {keep : List Bool} {torn : Int} {n : Nat} {S : List (List Int)} {W : List (Int × List Int)} (hn : n ≤ 16) (hS : ∀ s ∈ S, s.length = 16) (hW : ∀ p ∈ W, 0 ≤ p.1 ∧ p.1 < (S.length : Int) ∧ p.2.length = 16) : ∀ j, ∀ s ∈ crashW keep torn n S W j, s.length = 16
  | 0 => hS
  | j + 1 => by
    rw [crashW]
    split
    · rename_i p hp
      exact crashS_16 hn (crashW_16 hn hS hW j) (by rw [crashW_len]; exact hW p (List.mem_of_getElem? hp))
    · exact crashW_16 hn hS hW j
theorem Parts.crash {m j : Nat} {S : List (List Int)} {W : List (Int × List Int)} (h : Parts m j S W) (keep : List Bool) (torn : Int) {n : Nat} (hn : n ≤ 16) : Parts m (j + 1) (crashW keep torn n S W W.length) [] :=
  ⟨(crashW_len keep torn n S W _).trans h.len, crashW_16 hn h.s16 h.val _, by simp, by simp⟩
/-- A sector that no write was for is what it was. -/
theorem crashW_ne {keep : List Bool} {torn : Int} {n : Nat} {S : List (List Int)} {W : List (Int × List Int)} {i : Int} (h0 : 0 ≤ i) (hW : ∀ p ∈ W, 0 ≤ p.1 ∧ p.1 ≠ i) : ∀ j, (crashW keep torn n S W j)[i.toNat]? = S[i.toNat]?
  | 0 => rfl
  | j + 1 => by
    rw [crashW]
    split
    · rename_i p hp
      have hp' := hW p (List.mem_of_getElem? hp)
      have ne : p.1.toNat ≠ i.toNat := by omega
      refine Eq.trans ?_ (crashW_ne (keep := keep) (torn := torn) (n := n) h0 hW j)
      unfold crashS
      split
      · exact List.getElem?_set_ne ne
      · split
        · exact List.getElem?_set_ne ne
        · rfl
    · exact crashW_ne h0 hW j
theorem readW_ne (i : Int) : ∀ (W : List (Int × List Int)) (s : List Int), (∀ p ∈ W, p.1 ≠ i) → readW i W s = s
  | [], s, _ => rfl
  | p :: W, s, h => by
    rw [readW, if_neg (h p (by simp))]
    exact readW_ne i W s (fun q hq => h q (by simp [hq]))
end Go.Proofs.Ytoafbpbnlmcklaa.PAll

namespace Go.Proofs.Ytoafbpbnlmcklaa.PAll
open Go.RowKit Go.Proofs.YtoafbpbnlmcklaaW.PrintWords Go.Proofs.YtoafbpbnlmcklaaW.PrintLast Go.Proofs.YtoafbpbnlmcklaaW.PrintMore
set_option linter.unusedVariables false
/-- A disk's own blocks. -/
def InD (D gS : Nat) (A : Option Addr) (k : Nat) : Prop := k = D ∨ k = gS ∨ ∃ a, A = some a ∧ k = a.block
theorem DiskAt.inD {base D gS cW : Nat} {A : Option Addr} {S : List (List Int)} {W : List (Int × List Int)} {w : World} (h : DiskAt base D gS A cW S W w) {k : Nat} (hk : InD D gS A k) : base ≤ k ∧ ∃ cs t, (t = 64 ∨ t = 74 ∨ t = 76) ∧ w.heap[k]? = some (.cells cs t (0, 0)) := by
  obtain ⟨hD, hb, hbS, ⟨cS, hcS, h1, h2⟩, hO⟩ := h
  rcases hk with rfl | rfl | ⟨a, ha, rfl⟩
  · exact ⟨hb, _, _, .inl rfl, hD⟩
  · exact ⟨hbS, _, _, .inr (.inl rfl), hcS⟩
  · rcases hO.2 with ⟨he, _⟩ | ⟨g, cap, cur, he, hg, hh, _⟩
    · injection he with hA
      rw [hA] at ha; cases ha
    · injection he with hA
      rw [hA] at ha
      obtain rfl := Option.some.inj ha
      exact ⟨hg, _, _, .inr (.inr rfl), hh⟩
theorem DiskAt.move {base D gS cW : Nat} {A : Option Addr} {S : List (List Int)} {W : List (Int × List Int)} {w w' : World} (h : DiskAt base D gS A cW S W w) (hm : ∀ k, InD D gS A k → w'.heap[k]? = w.heap[k]?) : DiskAt base D gS A cW S W w' := by
  obtain ⟨hD, hb, hbS, ⟨cS, hcS, h1, h2⟩, hO⟩ := h
  refine ⟨(hm D (.inl rfl)).trans hD, hb, hbS, ⟨cS, (hm gS (.inr (.inl rfl))).trans hcS, h1, h2⟩, own_move hO (fun k hk => hm k (.inr (.inr ?_)))⟩
  obtain ⟨hA, _⟩ := own_block hO k hk
  exact ⟨_, hA, rfl⟩
theorem Touch.keep {D gS : Nat} {A : Option Addr} {w w' : World} (h : Touch D gS A w w') {k : Nat} (hk : k < w.heap.size) (hn : ¬ InD D gS A k) : w'.heap[k]? = w.heap[k]? :=
  h.block k hk (fun e => hn (.inl e)) (fun e => hn (.inr (.inl e))) (fun a ha e => hn (.inr (.inr ⟨a, ha, e⟩)))
theorem DiskAt.touch {D gS base2 D2 gS2 cW2 : Nat} {A A2 : Option Addr} {S2 : List (List Int)} {W2 : List (Int × List Int)} {w w' : World} (h2 : DiskAt base2 D2 gS2 A2 cW2 S2 W2 w) (ht : Touch D gS A w w') (ha : ∀ k, InD D2 gS2 A2 k → ¬ InD D gS A k) : DiskAt base2 D2 gS2 A2 cW2 S2 W2 w' :=
  h2.move (fun k hk => ht.keep (by obtain ⟨_, cs, t, _, hh⟩ := h2.inD hk; exact blk_lt hh) (ha k hk))
theorem DiskAt.lt {base D gS cW : Nat} {A : Option Addr} {S : List (List Int)} {W : List (Int × List Int)} {w : World} (h : DiskAt base D gS A cW S W w) {k : Nat} (hk : InD D gS A k) : k < w.heap.size := by
  obtain ⟨_, cs, t, _, hh⟩ := h.inD hk
  exact blk_lt hh
/-- What a write answers, and what waits behind it. -/
def writeE (S : List (List Int)) (i : Int) (b : List Int) : Int := if 0 ≤ i ∧ i < (S.length : Int) ∧ b.length = 16 then 0 else 1
def writeW (S : List (List Int)) (W : List (Int × List Int)) (i : Int) (b : List Int) : List (Int × List Int) := if 0 ≤ i ∧ i < (S.length : Int) ∧ b.length = 16 then W ++ [(i, b)] else W
theorem write_walk (base D gS cW : Nat) (A Ab : Option Addr) (S : List (List Int)) (W : List (Int × List Int)) (i : Int) (b : List Int) (n cb : Nat) (w : World) (h : DiskAt base D gS A cW S W w) (hn : W.length < 1099511627776) (hC : Kd.C (Kd.int .u8) w Ab n b) (hcb : n ≤ cb) :
    Calls Try.prog 15 #[.pointer (some ⟨D, 0, none⟩), .int .i64 i, .slice Ab n cb] w fun x w' => x = .returned (.int .i64 (writeE S i b)) ∧ ∃ A' cW', DiskAt base D gS A' cW' S (writeW S W i b) w' ∧ Touch D gS A w w' ∧ (∀ k, InD D gS A' k → InD D gS A k ∨ w.heap.size ≤ k) := by
  obtain rfl : b.length = n := hC.1
  by_cases c : 0 ≤ i ∧ i < (S.length : Int) ∧ b.length = 16
  · obtain ⟨c0, c1, c2⟩ := c
    obtain ⟨x0, x1, x2, x3, x4, x5, x6, x7, x8, x9, x10, x11, x12, x13, x14, x15, rfl⟩ := len16 c2
    obtain ⟨ad, eA, _⟩ := hC.2.2 (by simp)
    subst eA
    rw [writeE, if_pos ⟨c0, c1, c2⟩, writeW, if_pos ⟨c0, c1, c2⟩]
    refine (write_yes base D gS cW A S W i x0 x1 x2 x3 x4 x5 x6 x7 x8 x9 x10 x11 x12 x13 x14 x15 ad cb w h (decide_eq_true c0) (decide_eq_true c1) hn hcb (C_cells hC)).mono ?_
    rintro x w' ⟨rfl, A', cW', hd, ht, ha⟩
    refine ⟨rfl, A', cW', hd, ht, fun k hk => ?_⟩
    rcases hk with rfl | rfl | ⟨a, hA, rfl⟩
    · exact .inl (.inl rfl)
    · exact .inl (.inr (.inl rfl))
    · rcases ha a hA with e | e
      · exact .inl (.inr (.inr ⟨a, by rw [e]; exact hA, rfl⟩))
      · exact .inr e
  · rw [writeE, if_neg c, writeW, if_neg c]
    refine (write_no base D gS cW A Ab S W i b.length cb w h ?_).mono ?_
    · by_cases c0 : 0 ≤ i
      · by_cases c1 : i < (S.length : Int)
        · exact .inr (.inr ⟨decide_eq_true c0, decide_eq_true c1, bne_iff_ne.mpr (fun e => c ⟨c0, c1, by omega⟩)⟩)
        · exact .inr (.inl ⟨decide_eq_true c0, decide_eq_false c1⟩)
      · exact .inl (decide_eq_false c0)
    · rintro x w' ⟨rfl, rfl⟩
      exact ⟨rfl, A, cW, h, Touch.refl _ _ _ _, fun k hk => .inl hk⟩
/-- What a read answers. -/
def readE (S : List (List Int)) (i : Int) : Int := if 0 ≤ i ∧ i < (S.length : Int) then 0 else 1
def readL (S : List (List Int)) (W : List (Int × List Int)) (i : Int) : List Int := if 0 ≤ i ∧ i < (S.length : Int) then readW i W (S.getD i.toNat []) else []
theorem read_walk (base D gS cW m j : Nat) (A : Option Addr) (S : List (List Int)) (W : List (Int × List Int)) (i : Int) (w : World) (h : DiskAt base D gS A cW S W w) (hp : Parts m j S W) (hj : j < 1099511627776) :
    Calls Try.prog 14 #[.pointer (some ⟨D, 0, none⟩), .int .i64 i] w fun x w' => ∃ v, x = .returned (.tuple #[v, .int .i64 (readE S i)]) ∧ Kd.R (Kd.int .u8) 5 w' w.heap.size (fun _ => True) v (readL S W i) ∧ Below w.heap.size w w' := by
  by_cases c : 0 ≤ i ∧ i < (S.length : Int)
  · obtain ⟨c0, c1⟩ := c
    rw [readE, if_pos ⟨c0, c1⟩, readL, if_pos ⟨c0, c1⟩]
    have hlt : i.toNat < S.length := by omega
    have hs : S[i.toNat]? = some (S.getD i.toNat []) := by rw [List.getD_eq_getElem?_getD, List.getElem?_eq_getElem hlt, Option.getD_some]
    exact read_yes base D gS cW A S W i _ w h (decide_eq_true c0) (decide_eq_true c1) hs (hp.s16 _ (List.mem_of_getElem? hs)) (Nat.lt_of_le_of_lt hp.few hj) (fun p hq => (hp.val p hq).2.2)
  · rw [readE, if_neg c, readL, if_neg c]
    refine (read_no base D gS cW A S W i w h ?_).mono ?_
    · by_cases c0 : 0 ≤ i
      · exact .inr ⟨decide_eq_true c0, decide_eq_false (fun c1 => c ⟨c0, c1⟩)⟩
      · exact .inl (decide_eq_false c0)
    · rintro x w' ⟨rfl, rfl⟩
      exact ⟨_, rfl, Kd.R_nil _ _ _ _ _, Below.refl _ _⟩
theorem Parts.writeW {m j : Nat} {S : List (List Int)} {W : List (Int × List Int)} (h : Parts m j S W) (i : Int) (b : List Int) : Parts m (j + 1) S (writeW S W i b) := by
  unfold PAll.writeW
  split
  · rename_i c
    exact h.write i b c.1 c.2.1 c.2.2
  · exact h.mono (Nat.le_succ _)
/-- Two disks apart. -/
def Apart (D gS : Nat) (A : Option Addr) (D2 gS2 : Nat) (A2 : Option Addr) : Prop := ∀ k, InD D gS A k → ¬ InD D2 gS2 A2 k
theorem Apart.symm {D gS D2 gS2 : Nat} {A A2 : Option Addr} (h : Apart D gS A D2 gS2 A2) : Apart D2 gS2 A2 D gS A := fun k hk h2 => h k h2 hk
theorem Apart.grow {base2 D gS D2 gS2 cW2 : Nat} {A A' A2 : Option Addr} {S2 : List (List Int)} {W2 : List (Int × List Int)} {w : World} (h : Apart D gS A D2 gS2 A2) (h2 : DiskAt base2 D2 gS2 A2 cW2 S2 W2 w) (hg : ∀ k, InD D gS A' k → InD D gS A k ∨ w.heap.size ≤ k) : Apart D gS A' D2 gS2 A2 := fun k hk h2k => by
  rcases hg k hk with h1 | h1
  · exact h k h1 h2k
  · have := h2.lt h2k; omega
theorem Apart.of_base {base D gS cW base2 D2 gS2 cW2 : Nat} {A A2 : Option Addr} {S S2 : List (List Int)} {W W2 : List (Int × List Int)} {w w2 : World} (h : DiskAt base D gS A cW S W w) (h2 : DiskAt base2 D2 gS2 A2 cW2 S2 W2 w2) (hle : w.heap.size ≤ base2) : Apart D gS A D2 gS2 A2 := fun k hk h2k => by
  have h3 := h.lt hk
  have h4 := (h2.inD h2k).1
  omega
theorem Touch.bel' {B base D gS cW : Nat} {A : Option Addr} {S : List (List Int)} {W : List (Int × List Int)} {w0 w w' : World} (h : Touch D gS A w w') (hb : Below B w0 w) (hd : DiskAt base D gS A cW S W w) (hB : B ≤ base) : Below B w0 w' :=
  h.bel hb (Nat.le_trans hB hd.base.2.2.2) (Nat.le_trans hB hd.base.1) (Nat.le_trans hB hd.base.2.1) (fun a ha => Nat.le_trans hB (hd.base.2.2.1 a ha))
theorem DiskAt.lower {base base' D gS cW : Nat} {A : Option Addr} {S : List (List Int)} {W : List (Int × List Int)} {w : World} (h : DiskAt base D gS A cW S W w) (hb : base' ≤ base) : DiskAt base' D gS A cW S W w :=
  ⟨h.1, Nat.le_trans hb h.2.1, Nat.le_trans hb h.2.2.1, h.2.2.2.1, own_weaken h.2.2.2.2 hb⟩
def clampN (n : Int) : Nat := (if n < 1 then 1 else if 512 < n then 512 else n).toNat
def clampB (n : Int) : Nat := (if n < 0 then 0 else if 16 < n then 16 else n).toNat
theorem clampN_le (n : Int) : clampN n ≤ 512 ∧ 1 ≤ clampN n := by unfold clampN; split <;> (try split) <;> omega
theorem clampB_le (n : Int) : clampB n ≤ 16 := by unfold clampB; split <;> (try split) <;> omega
theorem new_tot (n : Int) (w : World) : Calls Try.prog 10 #[.int .i64 n] w fun x w' => ∃ D gS, x = .returned (.pointer (some ⟨D, 0, none⟩)) ∧ DiskAt w.heap.size D gS none 0 (List.replicate (clampN n) zeroS) [] w' ∧ Below w.heap.size w w' := by
  refine new_walk n (if n < 1 then 1 else n) (clampN n) w rfl ?_ (clampN_le n).1
  unfold clampN
  by_cases c : n < 1
  · rw [if_pos c, if_neg (by omega), if_pos c]; rfl
  · rw [if_neg c, if_neg c]
    split <;> omega
theorem crash_tot (base D gS cW m j : Nat) (A Ak : Option Addr) (ck : Nat) (S : List (List Int)) (W : List (Int × List Int)) (keep : List Bool) (torn bytes : Int) (w : World) (h : DiskAt base D gS A cW S W w) (hp : Parts m j S W) (hj : j < 1099511627776)
    (hk : Kd.F Kd.bool w (fun k => k ≠ gS) Ak keep.length keep) :
    Calls Try.prog 26 #[.pointer (some ⟨D, 0, none⟩), .slice Ak keep.length ck, .int .i64 torn, .int .i64 bytes] w fun x w' => x = .returned (.tuple #[]) ∧ DiskAt base D gS A cW (crashW keep torn (clampB bytes) S W W.length) [] w' ∧ Touch D gS A w w' := by
  refine crash_walkK base D gS cW (clampB bytes) A Ak ck S W keep torn bytes (if bytes < 0 then 0 else bytes) w h (fun p hq => hp.val p hq) (Nat.lt_of_le_of_lt hp.few hj) hk rfl ?_ (clampB_le bytes)
  unfold clampB
  by_cases c : bytes < 0
  · rw [if_pos c, if_neg (by omega), if_pos c]; rfl
  · rw [if_neg c, if_neg c]
    split <;> omega
theorem sync_tot (base D gS cW m j : Nat) (A : Option Addr) (S : List (List Int)) (W : List (Int × List Int)) (w : World) (h : DiskAt base D gS A cW S W w) (hp : Parts m j S W) (hj : j < 1099511627776) :
    Calls Try.prog 25 #[.pointer (some ⟨D, 0, none⟩)] w fun x w' => x = .returned (.tuple #[]) ∧ DiskAt base D gS A cW (applyW S W) [] w' ∧ Touch D gS A w w' :=
  sync_walk base D gS cW A S W w h (fun p hq => hp.val p hq) (Nat.lt_of_le_of_lt hp.few hj)
/-- A crash that keeps all is a sync; one that keeps nothing, and tears nothing, leaves what there was. -/
theorem crashW_all {keep : List Bool} {torn : Int} {n : Nat} {S : List (List Int)} {W : List (Int × List Int)} (hk : ∀ j, j < W.length → keep.getD j false = true) : ∀ j, j ≤ W.length → crashW keep torn n S W j = applyW S (W.take j)
  | 0, _ => rfl
  | j + 1, hj => by
    have hp : W[j]? = some W[j] := List.getElem?_eq_getElem (by omega)
    rw [crashW_step hp, applyW_step hp, crashW_all hk j (by omega), crashS, if_pos (hk j (by omega))]
theorem crashW_none {torn : Int} {n : Nat} {S : List (List Int)} {W : List (Int × List Int)} (ht : torn < 0) : ∀ j, crashW [] torn n S W j = S
  | 0 => rfl
  | j + 1 => by
    rw [crashW]
    split
    · rw [crashS, if_neg (by simp), if_neg (by omega)]
      exact crashW_none ht j
    · exact crashW_none ht j
end Go.Proofs.Ytoafbpbnlmcklaa.PAll
