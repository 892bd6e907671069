/- Crash of the disk, in memory. -/
import Derived.Test.YtfmgealooebciaaDiskSync
namespace Go.Proofs.Ytfmgealooebciaa.PAll
open Go.RowKit Go.Proofs.YtfmgealooebciaaW.PrintWords Go.Proofs.YtfmgealooebciaaW.PrintLast Go.Proofs.YtfmgealooebciaaW.PrintMore
attribute [local go_sem] max2_int min2_int max_two min_two max_three min_three max_four min_four
set_option linter.unusedVariables false
set_option linter.unusedSimpArgs false
/-- One write behind a crash. -/
def crashS (keep : List Bool) (torn : Int) (n : Nat) (S : List (List Int)) (j : Nat) (p : Int × List Int) : List (List Int) :=
  if keep.getD j false = true then S.set p.1.toNat p.2 else if (j : Int) = torn then S.set p.1.toNat (p.2.take n ++ (S.getD p.1.toNat []).drop n) else S
/-- The sectors behind the first writes. -/
def crashW (keep : List Bool) (torn : Int) (n : Nat) (S : List (List Int)) (W : List (Int × List Int)) : Nat → List (List Int)
  | 0 => S
  | j + 1 => match W[j]? with
    | some p => crashS keep torn n (crashW keep torn n S W j) j p
    | none => crashW keep torn n S W j
theorem crashS_len (keep : List Bool) (torn : Int) (n : Nat) (S : List (List Int)) (j : Nat) (p : Int × List Int) : (crashS keep torn n S j p).length = S.length := by
  unfold crashS
  split
  · exact List.length_set
  · split
    · exact List.length_set
    · rfl
theorem crashW_len (keep : List Bool) (torn : Int) (n : Nat) (S : List (List Int)) (W : List (Int × List Int)) : ∀ j, (crashW keep torn n S W j).length = S.length
  | 0 => rfl
  | j + 1 => by
    rw [crashW]
    split
    · rw [crashS_len]; exact crashW_len keep torn n S W j
    · exact crashW_len keep torn n S W j
theorem crashW_step {keep : List Bool} {torn : Int} {n : Nat} {S : List (List Int)} {W : List (Int × List Int)} {j : Nat} {p : Int × List Int} (hp : W[j]? = some p) : crashW keep torn n S W (j + 1) = crashS keep torn n (crashW keep torn n S W j) j p := by
  rw [crashW, hp]
theorem RowAt.setTake {g i n : Nat} {S : List (List Int)} {b old : List Int} {w : World} {cur : Array Value} (hh : w.heap[g]? = some (.cells cur 54 (0, 0))) (hs : S.length * 16 ≤ cur.size) (hr : ∀ k x, S[k]? = some x → (secC x).length = 16 ∧ ∀ j v, (secC x)[j]? = some v → cur[k * 16 + j]? = some v)
    (hi : i < S.length) (ho : S[i]? = some old) (hb : (secC b).length = 16) (hn : n ≤ 16) : RowAt secC 16 54 g (S.set i (b.take n ++ old.drop n)) (w.setRow g (splice cur.toList (i * 16) (secC (b.take n))).toArray) := by
  have hfit : i * 16 + 16 ≤ cur.size := by omega
  have hol := (hr i old ho).1
  have hcl : (secC (b.take n)).length = n := by rw [secC_len, List.length_take]; rw [secC_len] at hb; omega
  have hl : (splice cur.toList (i * 16) (secC (b.take n))).length = cur.size := by rw [length_splice _ _ _ (by rw [hcl, Array.length_toList]; omega), Array.length_toList]
  refine ⟨_, setRow_heap _ _ _ _ _ _ hh, by rw [List.length_set, List.size_toArray, hl]; exact hs, fun k x hx => ?_⟩
  have key : ∀ q, (splice cur.toList (i * 16) (secC (b.take n))).toArray[q]? = if q < i * 16 then cur[q]? else if q < i * 16 + n then (secC (b.take n))[q - i * 16]? else cur[q]? := by
    intro q
    rw [List.getElem?_toArray, splice]
    have h1 : (cur.toList.take (i * 16)).length = i * 16 := by rw [List.length_take, Array.length_toList]; omega
    by_cases c : q < i * 16
    · rw [List.getElem?_append_left (by rw [h1]; exact c), List.getElem?_take, if_pos c, if_pos c, Array.getElem?_toList]
    · rw [List.getElem?_append_right (by rw [h1]; omega), h1, if_neg c]
      by_cases c2 : q < i * 16 + n
      · rw [List.getElem?_append_left (by rw [hcl]; omega), if_pos c2]
      · rw [List.getElem?_append_right (by rw [hcl]; omega), if_neg c2, hcl, List.getElem?_drop, Array.getElem?_toList]
        congr 1
        omega
  by_cases ck : k = i
  · subst ck
    rw [List.getElem?_set_self hi] at hx
    obtain rfl := Option.some.inj hx
    rw [secC_len] at hb hol
    refine ⟨by rw [secC_len, List.length_append, List.length_take, List.length_drop]; omega, fun j v hv => ?_⟩
    have hj : j < 16 := by
      have := (List.getElem?_eq_some_iff.1 hv).1
      rw [secC_len, List.length_append, List.length_take, List.length_drop] at this
      omega
    rw [key, if_neg (by omega)]
    rw [secC, List.map_append] at hv
    by_cases c : j < n
    · rw [if_pos (by omega), show k * 16 + j - k * 16 = j by omega]
      rw [List.getElem?_append_left (by rw [List.length_map, List.length_take]; omega)] at hv
      exact hv
    · rw [if_neg (by omega)]
      rw [List.getElem?_append_right (by rw [List.length_map, List.length_take]; omega), List.length_map, List.length_take, show min n b.length = n by omega, List.map_drop, List.getElem?_drop, show n + (j - n) = j by omega] at hv
      exact (hr k old ho).2 j v hv
  · rw [List.getElem?_set_ne (Ne.symm ck)] at hx
    refine ⟨(hr k x hx).1, fun j v hv => ?_⟩
    have hj : j < 16 := by rw [← (hr k x hx).1]; exact (List.getElem?_eq_some_iff.1 hv).1
    rw [key]
    by_cases c : k * 16 + j < i * 16
    · rw [if_pos c]; exact (hr k x hx).2 j v hv
    · rw [if_neg c, if_neg (by omega)]; exact (hr k x hx).2 j v hv
theorem blk_of_base {base D gS cW : Nat} {A : Option Addr} {S : List (List Int)} {W : List (Int × List Int)} {w : World} (h : DiskAt base D gS A cW S W w) : ∀ a, A = some a → base ≤ a.block := by
  intro a ha
  rcases h.2.2.2.2.2 with ⟨he, _⟩ | ⟨g, cap, cur, he, hg, _⟩
  · injection he with hA
    rw [hA] at ha; cases ha
  · injection he with hA
    rw [hA] at ha
    obtain rfl := Option.some.inj ha
    exact hg
theorem slice54 (g off n : Nat) (hn : n ≤ 16) (W : World) : (Instr.sliceAt 54 (.pointer (some ⟨g, off, none⟩)) none (some (.int .i64 (n : Int))) none).run Try.prog W = .ok (.slice (some ⟨g, off, none⟩) n 16) W := by
  have e : Try.prog.arrayLen 54 = 16 := by kernel_rfl
  have hs : (sizeOf (Try.prog.elem 54)).run Try.prog W = .ok 1 W := by kernel_rfl
  have h := run_sliceAt_array_h (P := Try.prog) (w := W) (t := 54) (a := ⟨g, off, none⟩) (by kernel_rfl) .i64 (n : Int) (Int.natCast_nonneg n) (by rw [e]; omega)
  rw [h, hs, e]
  simp [slicedAt, Result.andThen, Addr.add]
theorem sec_oneCell (s : List Int) : ∀ v ∈ secC s, v.oneCell' = true := by
  intro v hv
  obtain ⟨x, -, rfl⟩ := List.mem_map.1 hv
  rfl
theorem src_cells {w : World} {g n : Nat} {p : Int × List Int} {e : TypeId} (h : w.heap[g]? = some (.cells (wrC p).toArray e (0, 0))) : ∀ j v, (secC (p.2.take n))[j]? = some v → w.cell? ((⟨g, 1, none⟩ : Addr).add j) = some v := by
  intro j v hv
  have hadd : (⟨g, 1, none⟩ : Addr).add j = ⟨g, 1 + j, none⟩ := by unfold Addr.add; split <;> simp_all
  rw [hadd, cell_of_row w g (1 + j) _ _ _ h]
  refine wr_tail p j v ?_
  rw [secC, List.map_take, List.getElem?_take] at hv
  split at hv
  · exact hv
  · cases hv
theorem kfact {w w2 : World} {ad : Addr} {v : Value} (h : w.cell? ad = some v) (hb : Below w.heap.size w w2) : w2.cell? ad = some v := by
  have hlt := World.block_lt_of_cell? w ad h
  have := hb.block ad.block hlt
  simpa [World.cell?, this] using h
set_option maxHeartbeats 4000000 in
set_option maxRecDepth 100000 in
theorem crash_walkK (base D gS cW n : Nat) (A Ak : Option Addr) (ck : Nat) (S : List (List Int)) (W : List (Int × List Int)) (keep : List Bool) (torn bytes m1 : Int) (w : World) (h : DiskAt base D gS A cW S W w) (hv : ∀ p ∈ W, 0 ≤ p.1 ∧ p.1 < (S.length : Int) ∧ p.2.length = 16) (hn : W.length < 1099511627776)
    (hk : Kd.F Kd.bool w (fun k => k ≠ gS) Ak keep.length keep) (hm1 : (if bytes < 0 then (0 : Int) else bytes) = m1) (hm2 : (if 16 < m1 then (16 : Int) else m1) = (n : Int)) (hn16 : n ≤ 16) :
    Calls Try.prog 17 #[.pointer (some ⟨D, 0, none⟩), .slice Ak keep.length ck, .int .i64 torn, .int .i64 bytes] w fun x w' => x = .returned (.tuple #[]) ∧ DiskAt base D gS A cW (crashW keep torn n S W W.length) [] w' ∧ Touch D gS A w w' := by
  have q1 : w.cell? ⟨D, 1, none⟩ = some (.slice A W.length cW) := (blk_cell h.1 1).trans rfl
  have H := Aside0.mk h
  have HV := Aside0.mk hv
  have HWn := Aside0.mk hn
  have HK := Aside0.mk hk
  have HN := Aside0.mk hn16
  obtain ⟨cS0, hcS0, _⟩ := h.2.2.2.1
  have HDS := Aside0.mk (blk_ne h.1 hcS0 (by decide))
  have HON := Aside0.mk (own_ne h.2.2.2.2 hcS0)
  clear h hv hn hcS0 hk hn16
  go_enter Try.func17, Try.ntmps17
  go_wp2_with fail
  have HM := Aside0.mk (show True from trivial)
  go_loopg [18] W.length (fun kq v18 w' => ∃ j : Nat, v18 = .int .i64 (j : Int) ∧ Aside0 (j + kq = W.length) ∧ Aside0 (RowAt secC 16 54 gS (crashW keep torn n S W j) w') ∧ Aside0 (Touch gS gS none w w'))
  case atStart => exact ⟨0, rfl, ⟨by omega⟩, ⟨H.out.2.2.2.1⟩, ⟨Touch.refl _ _ _ _⟩⟩
  case round =>
    obtain ⟨j, rfl, HJ, HRS, HT⟩ := hrel
    have HD := Aside0.mk ((HT.out.block D (blk_lt H.out.1) HDS.out HDS.out (fun a ha => by cases ha)).trans H.out.1)
    have HO := Aside0.mk (own_touch H.out.2.2.2.2 HT.out (fun g hg => ⟨HON.out g hg, HON.out g hg, fun a ha => by cases ha⟩))
    have HKw := Aside0.mk (Kd.F_step HK.out (fun k hk1 hk2 => HT.out.block k hk2 hk1 hk1 (fun a ha => by cases ha)))
    by_cases hlt : j < W.length
    · obtain ⟨p, hp⟩ : ∃ p, W[j]? = some p := ⟨_, List.getElem?_eq_getElem hlt⟩
      have hpv := HV.out p (List.mem_of_getElem? hp)
      obtain ⟨gW, eA, _, cWr, hcW, _, hrow⟩ := wr_row HO.out (fun q hq => (HV.out q hq).2.2) (by omega)
      obtain ⟨cS, hcS, hcl, hrS⟩ := HRS.out
      have hlenS := crashW_len keep torn n S W j
      rw [hlenS] at hcl
      have HLS := Aside0.mk hlenS
      subst eA
      have HcS := Aside0.mk hcS
      have HrS := Aside0.mk hrS
      have Hcl := Aside0.mk hcl
      have HcW := Aside0.mk hcW
      have HP := Aside0.mk (hrow j p hp).2
      have HPl := Aside0.mk (hrow j p hp).1
      have HPz := Aside0.mk (show (wrC p).toArray.size = 17 by rw [List.size_toArray]; exact HPl.out)
      have HPi := Aside0.mk (show (Try.prog.info? 56).map (·.size) = some (wrC p).length by rw [HPl.out]; kernel_rfl)
      have HP16 := Aside0.mk (show (secC p.2).length = 16 by rw [secC_len]; exact hpv.2.2)
      have HPs := Aside0.mk (show (secC p.2).toArray.size = 16 by rw [List.size_toArray]; exact HP16.out)
      have HPj := Aside0.mk (show (Try.prog.info? 54).map (·.size) = some (secC p.2).length by rw [HP16.out]; kernel_rfl)
      have HQ := Aside0.mk hp
      have HPV := Aside0.mk hpv
      have p1 : decide ((j : Int) < (W.length : Int)) = true := decide_eq_true (by omega)
      have p2 := eq_true (show 0 ≤ (j : Int) by omega)
      have p3 := eq_true (show (j : Int) < (W.length : Int) by omega)
      have p4 := eq_true hpv.1
      have p5 := eq_true hpv.2.1
      have HLT := Aside0.mk hlt
      have Hfit := Aside0.mk (show p.1.toNat * 16 + 16 ≤ cS.size by have := hpv.1; have := hpv.2.1; omega)
      clear hcW hrow hp hlt hpv hcS hrS hcl q1 hlenS
      have rounds : ∀ {S' : List (List Int)}, S' = crashW keep torn n S W (j + 1) → True := fun _ => trivial
      by_cases ckl : j < keep.length
      · obtain ⟨adk, eAk, hxk⟩ := Kd.at_bool (Kd.F_now HKw.out) (j : Int) (by omega) (by omega)
        subst eAk
        rw [Int.toNat_natCast] at hxk
        have HXK := Aside0.mk hxk
        have e1 : rdOf false keep (j : Int) = keep.getD j false := by unfold rdOf; rw [Int.toNat_natCast]
        have k1' : decide ((j : Int) < (keep.length : Int)) = true := decide_eq_true (by omega)
        have k2' := eq_true (show (j : Int) < (keep.length : Int) by omega)
        clear hxk ckl
        by_cases ckb : keep.getD j false = true
        · have HKB := Aside0.mk ckb
          rw [e1, ckb] at HXK
          clear e1 ckb
          go_wp2_with (first | ((with_reducible refine gate_ (.load 56 (.tmp 21)) rfl ?_); refine wpList_load_at rfl 56 (.tmp 21) rfl gW (j * 17) ⟨gW, j * 17, none⟩ rfl rfl 56 cWr (wrC p) (0, 0) _ HcW.out HP.out Try.underlying56 rfl HPi.out ?_) | ((with_reducible refine gate_store (t := 56) (p := 9) rfl ?_); refine wpList_store_row rfl 56 _ _ rfl wr.heap.size _ rfl rfl 56 _ (blk_new wr _) (by rw [HPz.out]; kernel_rfl) (by rw [HPz.out]; rfl) (wrC_all p) ?_; obtain ⟨w2, hw2⟩ : ∃ w2, w2 = (wr.alloc (.cells #[.int .i64 0, .int .u8 0, .int .u8 0, .int .u8 0, .int .u8 0, .int .u8 0, .int .u8 0, .int .u8 0, .int .u8 0, .int .u8 0, .int .u8 0, .int .u8 0, .int .u8 0, .int .u8 0, .int .u8 0, .int .u8 0, .int .u8 0] 56)).setRow wr.heap.size (wrC p).toArray := ⟨_, rfl⟩; rw [← hw2]; have HB2 := Aside0.mk (show Below wr.heap.size wr w2 by rw [hw2]; exact bset (below_alloc (Below.refl _ _) _) (Nat.le_refl _) _); have HC2 := Aside0.mk (show w2.heap[wr.heap.size]? = some (.cells (wrC p).toArray 56 (0, 0)) by rw [hw2]; exact setRow_heap _ _ _ _ _ _ (blk_new wr _)); clear hw2; have q2 : w2.cell? ⟨wr.heap.size, 0, none⟩ = some (.int .i64 p.1) := (blk_cell HC2.out 0).trans rfl; have q3 : w2.cell? ⟨D, 0, none⟩ = some (.slice (some ⟨gS, 0, none⟩) S.length S.length) := (blk_cell (blk_below HD.out HB2.out) 0).trans rfl; have HcS2 := Aside0.mk (blk_below HcS.out HB2.out); have qk : w2.cell? (adk.add j) = some (.bool true) := kfact HXK.out HB2.out))
          go_still_tail 9, (by kernel_rfl)
          refine wpStill_load_at rfl 54 (.tmp 40) rfl wr.heap.size 1 ⟨wr.heap.size, 1, none⟩ rfl rfl 56 (wrC p).toArray (secC p.2) (0, 0) _ (blk_drew HC2.out) (wr_tail p) Try.underlying54 rfl HPj.out ?_
          repeat still_step
          refine wpStill_nil ?_
          change wpList _ _ _ _ _ w2.drew
          refine wpList_store_at rfl 54 (.tmp 42) (.tmp 41) rfl gS (p.1.toNat * 16) ⟨gS, p.1.toNat * 16, none⟩ (secC p.2).toArray rfl rfl rfl 54 cS (blk_drew HcS2.out) (by rw [HPs.out]; kernel_rfl) (by rw [HPs.out]; exact Hfit.out) (secC_all p.2) ?_
          obtain ⟨w3, hw3⟩ : ∃ w3, w3 = w2.drew.setRow gS (splice cS.toList (p.1.toNat * 16) (secC p.2).toArray.toList).toArray := ⟨_, rfl⟩
          rw [← hw3]
          have HT3 := Aside0.mk (show Touch gS gS none w w3 by rw [hw3]; exact ((HT.out.below HB2.out).drew).row _)
          have HR3 := Aside0.mk (show RowAt secC 16 54 gS ((crashW keep torn n S W j).set p.1.toNat p.2) w3 by
            rw [hw3]
            have hlen := HLS.out
            have hp1 := HPV.out
            exact RowAt.set (blk_drew HcS2.out) (by rw [hlen]; exact Hcl.out) HrS.out (by rw [hlen]; omega) HP16.out)
          clear hw3 q2 q3
          go_wp2
          obtain ⟨k1, rfl⟩ : ∃ k1, gk = k1 + 1 := ⟨gk - 1, by have := HJ.out; have := HLT.out; omega⟩
          go_roundg k1
          case measure => omega
          case rel =>
            refine ⟨j + 1, ?_, ⟨by have := HJ.out; omega⟩, ⟨?_⟩, HT3⟩
            · exact congrArg (Value.int .i64) (widx (by have := HLT.out; have := HWn.out; omega))
            · rw [crashW_step HQ.out, crashS, if_pos HKB.out]
              exact HR3.out
        · have HKB := Aside0.mk ckb
          rw [e1, Bool.eq_false_iff.mpr ckb] at HXK
          clear e1 ckb
          by_cases ct : (j : Int) = torn
          · have HTB := Aside0.mk ct
            have ctb : ((j : Int) == torn) = true := beq_iff_eq.mpr ct
            clear ct
            go_wp2_with (first | ((with_reducible refine gate_ (.load 56 (.tmp 21)) rfl ?_); refine wpList_load_at rfl 56 (.tmp 21) rfl gW (j * 17) ⟨gW, j * 17, none⟩ rfl rfl 56 cWr (wrC p) (0, 0) _ HcW.out HP.out Try.underlying56 rfl HPi.out ?_) | ((with_reducible refine gate_store (t := 56) (p := 9) rfl ?_); refine wpList_store_row rfl 56 _ _ rfl wr.heap.size _ rfl rfl 56 _ (blk_new wr _) (by rw [HPz.out]; kernel_rfl) (by rw [HPz.out]; rfl) (wrC_all p) ?_; obtain ⟨w2, hw2⟩ : ∃ w2, w2 = (wr.alloc (.cells #[.int .i64 0, .int .u8 0, .int .u8 0, .int .u8 0, .int .u8 0, .int .u8 0, .int .u8 0, .int .u8 0, .int .u8 0, .int .u8 0, .int .u8 0, .int .u8 0, .int .u8 0, .int .u8 0, .int .u8 0, .int .u8 0, .int .u8 0] 56)).setRow wr.heap.size (wrC p).toArray := ⟨_, rfl⟩; rw [← hw2]; have HB2 := Aside0.mk (show Below wr.heap.size wr w2 by rw [hw2]; exact bset (below_alloc (Below.refl _ _) _) (Nat.le_refl _) _); have HC2 := Aside0.mk (show w2.heap[wr.heap.size]? = some (.cells (wrC p).toArray 56 (0, 0)) by rw [hw2]; exact setRow_heap _ _ _ _ _ _ (blk_new wr _)); clear hw2; have q2 : w2.cell? ⟨wr.heap.size, 0, none⟩ = some (.int .i64 p.1) := (blk_cell HC2.out 0).trans rfl; have q3 : w2.cell? ⟨D, 0, none⟩ = some (.slice (some ⟨gS, 0, none⟩) S.length S.length) := (blk_cell (blk_below HD.out HB2.out) 0).trans rfl; have HcS2 := Aside0.mk (blk_below HcS.out HB2.out); have qk : w2.cell? (adk.add j) = some (.bool false) := kfact HXK.out HB2.out))
            have hsl := slice54 gS (p.1.toNat * 16) n HN.out w2.drew
            go_still_tail 11, (by kernel_rfl)
            change wpList _ _ _ _ _ w2.drew
            obtain ⟨old, hold⟩ : ∃ old, (crashW keep torn n S W j)[p.1.toNat]? = some old := ⟨_, List.getElem?_eq_getElem (by rw [HLS.out]; have := HPV.out; omega)⟩
            have HOLD := Aside0.mk hold
            have HTL := Aside0.mk (show (secC (p.2.take n)).length = n by rw [secC_len, List.length_take]; have h1 := HP16.out; rw [secC_len] at h1; have := HN.out; omega)
            clear hold hsl
            refine wpList_copy_own rfl (.tmp 55) (.tmp 57) 30 30 rfl 5 Try.underlying30 (by kernel_rfl) gS (p.1.toNat * 16) n 16 ⟨wr.heap.size, 1, none⟩ 16 16 rfl rfl cS 54 (blk_drew HcS2.out) (secC (p.2.take n)) (by rw [HTL.out]; exact (Nat.min_eq_right HN.out).symm) (src_cells (blk_drew HC2.out)) (by rw [HTL.out]; have := Hfit.out; have := HN.out; omega) (sec_oneCell _) ?_
            obtain ⟨w3, hw3⟩ : ∃ w3, w3 = w2.drew.setRow gS (splice cS.toList (p.1.toNat * 16) (secC (p.2.take n))).toArray := ⟨_, rfl⟩
            change wpList _ _ _ _ _ (w2.drew.setRow gS (splice cS.toList (p.1.toNat * 16) (secC (p.2.take n))).toArray)
            rw [← hw3]
            have HT3 := Aside0.mk (show Touch gS gS none w w3 by rw [hw3]; exact ((HT.out.below HB2.out).drew).row _)
            have HR3 := Aside0.mk (show RowAt secC 16 54 gS ((crashW keep torn n S W j).set p.1.toNat (p.2.take n ++ old.drop n)) w3 by
              rw [hw3]
              have hlen := HLS.out
              have hp1 := HPV.out
              exact RowAt.setTake (blk_drew HcS2.out) (by rw [hlen]; exact Hcl.out) HrS.out (by rw [hlen]; omega) HOLD.out HP16.out HN.out)
            clear hw3 q2 q3
            go_wp2
            obtain ⟨k1, rfl⟩ : ∃ k1, gk = k1 + 1 := ⟨gk - 1, by have := HJ.out; have := HLT.out; omega⟩
            go_roundg k1
            case measure => omega
            case rel =>
              refine ⟨j + 1, ?_, ⟨by have := HJ.out; omega⟩, ⟨?_⟩, HT3⟩
              · exact congrArg (Value.int .i64) (widx (by have := HLT.out; have := HWn.out; omega))
              · rw [crashW_step HQ.out, crashS, if_neg HKB.out, if_pos HTB.out, List.getD_eq_getElem?_getD, HOLD.out, Option.getD_some]
                exact HR3.out
          · have HTB := Aside0.mk ct
            have ctb : ((j : Int) == torn) = false := beq_eq_false_iff_ne.mpr ct
            clear ct
            go_wp2_with (first | ((with_reducible refine gate_ (.load 56 (.tmp 21)) rfl ?_); refine wpList_load_at rfl 56 (.tmp 21) rfl gW (j * 17) ⟨gW, j * 17, none⟩ rfl rfl 56 cWr (wrC p) (0, 0) _ HcW.out HP.out Try.underlying56 rfl HPi.out ?_) | ((with_reducible refine gate_store (t := 56) (p := 9) rfl ?_); refine wpList_store_row rfl 56 _ _ rfl wr.heap.size _ rfl rfl 56 _ (blk_new wr _) (by rw [HPz.out]; kernel_rfl) (by rw [HPz.out]; rfl) (wrC_all p) ?_; obtain ⟨w2, hw2⟩ : ∃ w2, w2 = (wr.alloc (.cells #[.int .i64 0, .int .u8 0, .int .u8 0, .int .u8 0, .int .u8 0, .int .u8 0, .int .u8 0, .int .u8 0, .int .u8 0, .int .u8 0, .int .u8 0, .int .u8 0, .int .u8 0, .int .u8 0, .int .u8 0, .int .u8 0, .int .u8 0] 56)).setRow wr.heap.size (wrC p).toArray := ⟨_, rfl⟩; rw [← hw2]; have HB2 := Aside0.mk (show Below wr.heap.size wr w2 by rw [hw2]; exact bset (below_alloc (Below.refl _ _) _) (Nat.le_refl _) _); have HC2 := Aside0.mk (show w2.heap[wr.heap.size]? = some (.cells (wrC p).toArray 56 (0, 0)) by rw [hw2]; exact setRow_heap _ _ _ _ _ _ (blk_new wr _)); clear hw2; have q2 : w2.cell? ⟨wr.heap.size, 0, none⟩ = some (.int .i64 p.1) := (blk_cell HC2.out 0).trans rfl; have q3 : w2.cell? ⟨D, 0, none⟩ = some (.slice (some ⟨gS, 0, none⟩) S.length S.length) := (blk_cell (blk_below HD.out HB2.out) 0).trans rfl; have HcS2 := Aside0.mk (blk_below HcS.out HB2.out); have qk : w2.cell? (adk.add j) = some (.bool false) := kfact HXK.out HB2.out))
            have HT3 := Aside0.mk (HT.out.below HB2.out)
            have HR3 := Aside0.mk (HRS.out.below HB2.out)
            obtain ⟨k1, rfl⟩ : ∃ k1, gk = k1 + 1 := ⟨gk - 1, by have := HJ.out; have := HLT.out; omega⟩
            go_roundg k1
            case measure => omega
            case rel =>
              refine ⟨j + 1, ?_, ⟨by have := HJ.out; omega⟩, ⟨?_⟩, HT3⟩
              · exact congrArg (Value.int .i64) (widx (by have := HLT.out; have := HWn.out; omega))
              · rw [crashW_step HQ.out, crashS, if_neg HKB.out, if_neg HTB.out]
                exact HR3.out
      · have HKB := Aside0.mk (show ¬ keep.getD j false = true by rw [List.getD_eq_getElem?_getD, List.getElem?_eq_none (by omega)]; decide)
        have k1' : decide ((j : Int) < (keep.length : Int)) = false := decide_eq_false (by omega)
        have k3' : decide (j < keep.length) = false := decide_eq_false ckl
        by_cases ct : (j : Int) = torn
        · have HTB := Aside0.mk ct
          have ctb : ((j : Int) == torn) = true := beq_iff_eq.mpr ct
          clear ct
          go_wp2_with (first | ((with_reducible refine gate_ (.load 56 (.tmp 21)) rfl ?_); refine wpList_load_at rfl 56 (.tmp 21) rfl gW (j * 17) ⟨gW, j * 17, none⟩ rfl rfl 56 cWr (wrC p) (0, 0) _ HcW.out HP.out Try.underlying56 rfl HPi.out ?_) | ((with_reducible refine gate_store (t := 56) (p := 9) rfl ?_); refine wpList_store_row rfl 56 _ _ rfl wr.heap.size _ rfl rfl 56 _ (blk_new wr _) (by rw [HPz.out]; kernel_rfl) (by rw [HPz.out]; rfl) (wrC_all p) ?_; obtain ⟨w2, hw2⟩ : ∃ w2, w2 = (wr.alloc (.cells #[.int .i64 0, .int .u8 0, .int .u8 0, .int .u8 0, .int .u8 0, .int .u8 0, .int .u8 0, .int .u8 0, .int .u8 0, .int .u8 0, .int .u8 0, .int .u8 0, .int .u8 0, .int .u8 0, .int .u8 0, .int .u8 0, .int .u8 0] 56)).setRow wr.heap.size (wrC p).toArray := ⟨_, rfl⟩; rw [← hw2]; have HB2 := Aside0.mk (show Below wr.heap.size wr w2 by rw [hw2]; exact bset (below_alloc (Below.refl _ _) _) (Nat.le_refl _) _); have HC2 := Aside0.mk (show w2.heap[wr.heap.size]? = some (.cells (wrC p).toArray 56 (0, 0)) by rw [hw2]; exact setRow_heap _ _ _ _ _ _ (blk_new wr _)); clear hw2; have q2 : w2.cell? ⟨wr.heap.size, 0, none⟩ = some (.int .i64 p.1) := (blk_cell HC2.out 0).trans rfl; have q3 : w2.cell? ⟨D, 0, none⟩ = some (.slice (some ⟨gS, 0, none⟩) S.length S.length) := (blk_cell (blk_below HD.out HB2.out) 0).trans rfl; have HcS2 := Aside0.mk (blk_below HcS.out HB2.out)))
          have hsl := slice54 gS (p.1.toNat * 16) n HN.out w2.drew
          go_still_tail 11, (by kernel_rfl)
          change wpList _ _ _ _ _ w2.drew
          obtain ⟨old, hold⟩ : ∃ old, (crashW keep torn n S W j)[p.1.toNat]? = some old := ⟨_, List.getElem?_eq_getElem (by rw [HLS.out]; have := HPV.out; omega)⟩
          have HOLD := Aside0.mk hold
          have HTL := Aside0.mk (show (secC (p.2.take n)).length = n by rw [secC_len, List.length_take]; have h1 := HP16.out; rw [secC_len] at h1; have := HN.out; omega)
          clear hold hsl
          refine wpList_copy_own rfl (.tmp 55) (.tmp 57) 30 30 rfl 5 Try.underlying30 (by kernel_rfl) gS (p.1.toNat * 16) n 16 ⟨wr.heap.size, 1, none⟩ 16 16 rfl rfl cS 54 (blk_drew HcS2.out) (secC (p.2.take n)) (by rw [HTL.out]; exact (Nat.min_eq_right HN.out).symm) (src_cells (blk_drew HC2.out)) (by rw [HTL.out]; have := Hfit.out; have := HN.out; omega) (sec_oneCell _) ?_
          obtain ⟨w3, hw3⟩ : ∃ w3, w3 = w2.drew.setRow gS (splice cS.toList (p.1.toNat * 16) (secC (p.2.take n))).toArray := ⟨_, rfl⟩
          change wpList _ _ _ _ _ (w2.drew.setRow gS (splice cS.toList (p.1.toNat * 16) (secC (p.2.take n))).toArray)
          rw [← hw3]
          have HT3 := Aside0.mk (show Touch gS gS none w w3 by rw [hw3]; exact ((HT.out.below HB2.out).drew).row _)
          have HR3 := Aside0.mk (show RowAt secC 16 54 gS ((crashW keep torn n S W j).set p.1.toNat (p.2.take n ++ old.drop n)) w3 by
            rw [hw3]
            have hlen := HLS.out
            have hp1 := HPV.out
            exact RowAt.setTake (blk_drew HcS2.out) (by rw [hlen]; exact Hcl.out) HrS.out (by rw [hlen]; omega) HOLD.out HP16.out HN.out)
          clear hw3 q2 q3
          go_wp2
          obtain ⟨k1, rfl⟩ : ∃ k1, gk = k1 + 1 := ⟨gk - 1, by have := HJ.out; have := HLT.out; omega⟩
          go_roundg k1
          case measure => omega
          case rel =>
            refine ⟨j + 1, ?_, ⟨by have := HJ.out; omega⟩, ⟨?_⟩, HT3⟩
            · exact congrArg (Value.int .i64) (widx (by have := HLT.out; have := HWn.out; omega))
            · rw [crashW_step HQ.out, crashS, if_neg HKB.out, if_pos HTB.out, List.getD_eq_getElem?_getD, HOLD.out, Option.getD_some]
              exact HR3.out
        · have HTB := Aside0.mk ct
          have ctb : ((j : Int) == torn) = false := beq_eq_false_iff_ne.mpr ct
          clear ct
          go_wp2_with (first | ((with_reducible refine gate_ (.load 56 (.tmp 21)) rfl ?_); refine wpList_load_at rfl 56 (.tmp 21) rfl gW (j * 17) ⟨gW, j * 17, none⟩ rfl rfl 56 cWr (wrC p) (0, 0) _ HcW.out HP.out Try.underlying56 rfl HPi.out ?_) | ((with_reducible refine gate_store (t := 56) (p := 9) rfl ?_); refine wpList_store_row rfl 56 _ _ rfl wr.heap.size _ rfl rfl 56 _ (blk_new wr _) (by rw [HPz.out]; kernel_rfl) (by rw [HPz.out]; rfl) (wrC_all p) ?_; obtain ⟨w2, hw2⟩ : ∃ w2, w2 = (wr.alloc (.cells #[.int .i64 0, .int .u8 0, .int .u8 0, .int .u8 0, .int .u8 0, .int .u8 0, .int .u8 0, .int .u8 0, .int .u8 0, .int .u8 0, .int .u8 0, .int .u8 0, .int .u8 0, .int .u8 0, .int .u8 0, .int .u8 0, .int .u8 0] 56)).setRow wr.heap.size (wrC p).toArray := ⟨_, rfl⟩; rw [← hw2]; have HB2 := Aside0.mk (show Below wr.heap.size wr w2 by rw [hw2]; exact bset (below_alloc (Below.refl _ _) _) (Nat.le_refl _) _); have HC2 := Aside0.mk (show w2.heap[wr.heap.size]? = some (.cells (wrC p).toArray 56 (0, 0)) by rw [hw2]; exact setRow_heap _ _ _ _ _ _ (blk_new wr _)); clear hw2; have q2 : w2.cell? ⟨wr.heap.size, 0, none⟩ = some (.int .i64 p.1) := (blk_cell HC2.out 0).trans rfl; have q3 : w2.cell? ⟨D, 0, none⟩ = some (.slice (some ⟨gS, 0, none⟩) S.length S.length) := (blk_cell (blk_below HD.out HB2.out) 0).trans rfl; have HcS2 := Aside0.mk (blk_below HcS.out HB2.out)))
          have HT3 := Aside0.mk (HT.out.below HB2.out)
          have HR3 := Aside0.mk (HRS.out.below HB2.out)
          obtain ⟨k1, rfl⟩ : ∃ k1, gk = k1 + 1 := ⟨gk - 1, by have := HJ.out; have := HLT.out; omega⟩
          go_roundg k1
          case measure => omega
          case rel =>
            refine ⟨j + 1, ?_, ⟨by have := HJ.out; omega⟩, ⟨?_⟩, HT3⟩
            · exact congrArg (Value.int .i64) (widx (by have := HLT.out; have := HWn.out; omega))
            · rw [crashW_step HQ.out, crashS, if_neg HKB.out, if_neg HTB.out]
              exact HR3.out
    · obtain rfl : j = W.length := by have := HJ.out; omega
      have p1 : decide (((W.length : Nat) : Int) < (W.length : Int)) = false := decide_eq_false (by omega)
      clear hlt q1
      obtain ⟨hcap, g, cur, hgA⟩ := wait_row HO.out
      have HG := Aside0.mk hgA
      have HCAP := Aside0.mk hcap
      clear hgA hcap
      go_wp2_with fail
      refine (forget_walk D D (.slice (some ⟨gS, 0, none⟩) S.length S.length) A W.length cW g cur wr HD.out (by rcases HG.out with h | h; exact .inl h.1; exact .inr ⟨h.1, h.2.1, h.2.2.1⟩) HCAP.out).mono ?_
      rintro x w4 ⟨rfl, hD4, hG4, hT4⟩
      have HD4 := Aside0.mk hD4
      have HG4 := Aside0.mk hG4
      have HT4 := Aside0.mk hT4
      clear hD4 hG4 hT4
      go_wp2
      go_end0
      exact ⟨rfl, forgot (crashW_len keep torn n S W W.length) H.out.2.1 H.out.2.2.1 HD.out HRS.out HG.out HD4.out HG4.out HT4.out, HT.out.two HT4.out⟩
theorem crash_walk (base D gS cW n : Nat) (A Ak : Option Addr) (ck : Nat) (S : List (List Int)) (W : List (Int × List Int)) (keep : List Bool) (torn bytes m1 : Int) (w : World) (h : DiskAt base D gS A cW S W w) (hv : ∀ p ∈ W, 0 ≤ p.1 ∧ p.1 < (S.length : Int) ∧ p.2.length = 16) (hn : W.length < 1099511627776)
    (hk : Kd.F Kd.bool w (fun k => k < base) Ak keep.length keep) (hm1 : (if bytes < 0 then (0 : Int) else bytes) = m1) (hm2 : (if 16 < m1 then (16 : Int) else m1) = (n : Int)) (hn16 : n ≤ 16) :
    Calls Try.prog 17 #[.pointer (some ⟨D, 0, none⟩), .slice Ak keep.length ck, .int .i64 torn, .int .i64 bytes] w fun x w' => x = .returned (.tuple #[]) ∧ DiskAt base D gS A cW (crashW keep torn n S W W.length) [] w' ∧ Touch D gS A w w' :=
  crash_walkK base D gS cW n A Ak ck S W keep torn bytes m1 w h hv hn (Kd.F_mono hk (fun k hk1 => by have := h.2.2.1; omega)) hm1 hm2 hn16
end Go.Proofs.Ytfmgealooebciaa.PAll
