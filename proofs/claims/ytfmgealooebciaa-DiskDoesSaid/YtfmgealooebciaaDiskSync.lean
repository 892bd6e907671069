/- Sync of the disk, in memory. -/
import Derived.Test.YtfmgealooebciaaDiskRead
import Derived.StillTailTactics
namespace Go.Proofs.Ytfmgealooebciaa.PAll
open Go.RowKit Go.Proofs.YtfmgealooebciaaW.PrintWords Go.Proofs.YtfmgealooebciaaW.PrintLast Go.Proofs.YtfmgealooebciaaW.PrintMore
set_option linter.unusedVariables false
set_option linter.unusedSimpArgs false
/-- Only the disk's own blocks, and new ones, are other ones. -/
structure Touch (D gS : Nat) (A : Option Addr) (w w' : World) : Prop where
  os : w'.os = w.os
  tape : w'.tape = w.tape
  output : w'.output = w.output
  size : w.heap.size ≤ w'.heap.size
  block : ∀ k, k < w.heap.size → k ≠ D → k ≠ gS → (∀ a, A = some a → k ≠ a.block) → w'.heap[k]? = w.heap[k]?
theorem Touch.refl (D gS : Nat) (A : Option Addr) (w : World) : Touch D gS A w w := ⟨rfl, rfl, rfl, Nat.le_refl _, fun _ _ _ _ _ => rfl⟩
theorem Touch.below {D gS : Nat} {A : Option Addr} {w w' w'' : World} (h : Touch D gS A w w') (hb : Below w'.heap.size w' w'') : Touch D gS A w w'' :=
  ⟨hb.os.trans h.os, hb.tape.trans h.tape, hb.output.trans h.output, Nat.le_trans h.size hb.size, fun k hk h1 h2 h3 => (hb.block k (Nat.lt_of_lt_of_le hk h.size)).trans (h.block k hk h1 h2 h3)⟩
theorem Touch.row {D gS : Nat} {A : Option Addr} {w w' : World} (h : Touch D gS A w w') (cs : Array Value) : Touch D gS A w (w'.setRow gS cs) :=
  ⟨h.os, h.tape, h.output, Nat.le_trans h.size (Nat.le_of_eq (size_setRow _ _ _).symm), fun k hk h1 h2 h3 => (setRow_other w' gS k cs h2).trans (h.block k hk h1 h2 h3)⟩
/-- The sectors behind writes. -/
def applyW (S : List (List Int)) (W : List (Int × List Int)) : List (List Int) := W.foldl (fun S p => S.set p.1.toNat p.2) S
theorem applyW_len (W : List (Int × List Int)) : ∀ S, (applyW S W).length = S.length := by
  induction W with
  | nil => intro S; rfl
  | cons p W ih => intro S; show (applyW (S.set p.1.toNat p.2) W).length = _; rw [ih, List.length_set]
theorem applyW_step {S : List (List Int)} {W : List (Int × List Int)} {j : Nat} {p : Int × List Int} (hp : W[j]? = some p) : applyW S (W.take (j + 1)) = (applyW S (W.take j)).set p.1.toNat p.2 := by
  rw [List.take_add_one, hp, Option.toList_some, applyW, List.foldl_append]
  rfl
theorem RowAt.set {g i : Nat} {S : List (List Int)} {b : List Int} {w : World} {cur : Array Value} (hh : w.heap[g]? = some (.cells cur 54 (0, 0))) (hs : S.length * 16 ≤ cur.size) (hr : ∀ k x, S[k]? = some x → (secC x).length = 16 ∧ ∀ j v, (secC x)[j]? = some v → cur[k * 16 + j]? = some v)
    (hi : i < S.length) (hb : (secC b).length = 16) : RowAt secC 16 54 g (S.set i b) (w.setRow g (splice cur.toList (i * 16) (secC b)).toArray) := by
  have hfit : i * 16 + 16 ≤ cur.size := by omega
  have hl : (splice cur.toList (i * 16) (secC b)).length = cur.size := by rw [length_splice _ _ _ (by rw [hb, Array.length_toList]; exact hfit), Array.length_toList]
  refine ⟨_, setRow_heap _ _ _ _ _ _ hh, by rw [List.length_set, List.size_toArray, hl]; exact hs, fun k x hx => ?_⟩
  have key : ∀ q, (splice cur.toList (i * 16) (secC b)).toArray[q]? = if q < i * 16 then cur[q]? else if q < i * 16 + 16 then (secC b)[q - i * 16]? else cur[q]? := by
    intro q
    rw [List.getElem?_toArray, splice]
    have h1 : (cur.toList.take (i * 16)).length = i * 16 := by rw [List.length_take, Array.length_toList]; omega
    by_cases c : q < i * 16
    · rw [List.getElem?_append_left (by rw [h1]; exact c), List.getElem?_take, if_pos c, if_pos c, Array.getElem?_toList]
    · rw [List.getElem?_append_right (by rw [h1]; omega), h1, if_neg c]
      by_cases c2 : q < i * 16 + 16
      · rw [List.getElem?_append_left (by rw [hb]; omega), if_pos c2]
      · rw [List.getElem?_append_right (by rw [hb]; omega), if_neg c2, hb, List.getElem?_drop, Array.getElem?_toList]
        congr 1
        omega
  by_cases ck : k = i
  · subst ck
    rw [List.getElem?_set_self hi] at hx
    obtain rfl := Option.some.inj hx
    refine ⟨hb, fun j v hv => ?_⟩
    have hj : j < 16 := by rw [← hb]; exact (List.getElem?_eq_some_iff.1 hv).1
    rw [key, if_neg (by omega), if_pos (by omega), show k * 16 + j - k * 16 = j by omega]
    exact hv
  · rw [List.getElem?_set_ne (Ne.symm ck)] at hx
    refine ⟨(hr k x hx).1, fun j v hv => ?_⟩
    have hj : j < 16 := by rw [← (hr k x hx).1]; exact (List.getElem?_eq_some_iff.1 hv).1
    rw [key]
    by_cases c : k * 16 + j < i * 16
    · rw [if_pos c]; exact (hr k x hx).2 j v hv
    · rw [if_neg c, if_neg (by omega)]; exact (hr k x hx).2 j v hv
theorem Touch.rowA {D gS g : Nat} {w w' : World} (h : Touch D gS (some ⟨g, 0, none⟩) w w') (cs : Array Value) : Touch D gS (some ⟨g, 0, none⟩) w (w'.setRow g cs) :=
  ⟨h.os, h.tape, h.output, Nat.le_trans h.size (Nat.le_of_eq (size_setRow _ _ _).symm), fun k hk h1 h2 h3 => (setRow_other w' g k cs (h3 _ rfl)).trans (h.block k hk h1 h2 h3)⟩
theorem Touch.cellD {D gS : Nat} {A : Option Addr} {w w' : World} (h : Touch D gS A w w') (i : Nat) (v : Value) : Touch D gS A w (w'.setCell ⟨D, i, none⟩ v) :=
  ⟨h.os, h.tape, h.output, Nat.le_trans h.size (Nat.le_of_eq (by simp)), fun k hk h1 h2 h3 => (Below.heap_setCell w' ⟨D, i, none⟩ v k h1).trans (h.block k hk h1 h2 h3)⟩
theorem info56 : ∃ i, Try.prog.info? 56 = some i ∧ i.zero = some (.agg #[.int .i64 0, .int .u8 0, .int .u8 0, .int .u8 0, .int .u8 0, .int .u8 0, .int .u8 0, .int .u8 0, .int .u8 0, .int .u8 0, .int .u8 0, .int .u8 0, .int .u8 0, .int .u8 0, .int .u8 0, .int .u8 0, .int .u8 0]) :=
  ⟨(Try.prog.info? 56).get (by kernel_rfl), (Option.some_get _).symm, by kernel_rfl⟩
theorem clear_facts {D gS : Nat} {vS : Value} {A : Option Addr} {n c g : Nat} {cur : Array Value} {w w1 : World} (hD : w.heap[D]? = some (.cells #[vS, .slice A n c] 51 (0, 0))) (hA : (A = none) ∨ (A = some ⟨g, 0, none⟩ ∧ w.heap[g]? = some (.cells cur 56 (0, 0)) ∧ n * 17 ≤ cur.size))
    (h1 : (A = none ∧ w1 = w) ∨ (A = some ⟨g, 0, none⟩ ∧ ∃ zs : List Value, zs.length = n * 17 ∧ w1 = w.setRow g (splice cur.toList 0 zs).toArray)) :
    w1.heap[D]? = some (.cells #[vS, .slice A n c] 51 (0, 0)) ∧ (A = none ∨ (A = some ⟨g, 0, none⟩ ∧ ∃ cur', w1.heap[g]? = some (.cells cur' 56 (0, 0)) ∧ cur'.size = cur.size)) ∧ Touch D gS A w w1 := by
  rcases h1 with ⟨rfl, rfl⟩ | ⟨rfl, zs, hz, rfl⟩
  · exact ⟨hD, .inl rfl, Touch.refl _ _ _ _⟩
  · rcases hA with hA | ⟨_, hg, hfit⟩
    · cases hA
    · have hne : D ≠ g := blk_ne hD hg (by decide)
      refine ⟨(setRow_other _ _ _ _ hne).trans hD, .inr ⟨rfl, _, setRow_heap _ _ _ _ _ _ hg, ?_⟩, (Touch.refl _ _ _ _).rowA _⟩
      have h2 : cur.toList.length = cur.size := Array.length_toList
      have h3 : (splice cur.toList 0 zs).length = cur.toList.length := length_splice _ _ _ (by rw [hz, h2]; omega)
      rw [List.size_toArray, h3, h2]
set_option maxHeartbeats 1000000 in
set_option maxRecDepth 100000 in
theorem forget_walk (D gS : Nat) (vS : Value) (A : Option Addr) (n c g : Nat) (cur : Array Value) (w : World) (hD : w.heap[D]? = some (.cells #[vS, .slice A n c] 51 (0, 0))) (hA : (A = none) ∨ (A = some ⟨g, 0, none⟩ ∧ w.heap[g]? = some (.cells cur 56 (0, 0)) ∧ n * 17 ≤ cur.size)) (hc : n ≤ c) :
    Calls Try.prog 25 #[.pointer (some ⟨D, 0, none⟩)] w fun x w' => x = .returned (.tuple #[]) ∧ w'.heap[D]? = some (.cells #[vS, .slice A 0 c] 51 (0, 0)) ∧ (A = none ∨ ∃ cur', w'.heap[g]? = some (.cells cur' 56 (0, 0)) ∧ cur'.size = cur.size) ∧ Touch D gS A w w' := by
  have q1 : w.cell? ⟨D, 1, none⟩ = some (.slice A n c) := (blk_cell hD 1).trans rfl
  obtain ⟨i56, hi56, hz56⟩ := info56
  have HD := Aside0.mk hD
  have HA := Aside0.mk hA
  have HC := Aside0.mk hc
  have HI := Aside0.mk hi56
  have HZ := Aside0.mk hz56
  obtain ⟨i0, hi0, _⟩ : ∃ i, Try.prog.info? 56 = some i ∧ True := ⟨i56, hi56, trivial⟩
  have hcut := cut_to (P := Try.prog) 49 56 .i64 Try.underlying49 hi56 A n c 0 (Int.le_refl 0) (Int.natCast_nonneg n) hc
  rw [show (0 : Int).toNat = 0 from rfl] at hcut
  clear hD hA hc hi56 hz56 hi0
  go_enter Try.func25, Try.ntmps25
  go_wp2_with ((with_reducible refine gate_builtin (b := .clear) (xs := #[.tmp 5]) rfl ?_); refine wpList_clear_row rfl (.tmp 5) 49 rfl 56 Try.underlying49 _ i56 HI.out HZ.out (by kernel_rfl) (by decide) A n c rfl g cur 56 HA.out ?_; intro w1 h1; have H1 := Aside0.mk (clear_facts (gS := gS) HD.out HA.out h1); clear h1; have q2 : w1.cell? ⟨D, 1, none⟩ = some (.slice A n c) := (blk_cell H1.out.1 1).trans rfl; have f2 := blk_frozen H1.out.1 1)
  go_end0
  have hne : A = none ∨ D ≠ g := by
    rcases H1.out.2.1 with h | ⟨_, cur', h, _⟩
    · exact .inl h
    · exact .inr (blk_ne H1.out.1 h (by decide))
  refine ⟨rfl, blk_put H1.out.1 1 _ rfl, ?_, H1.out.2.2.cellD 1 _⟩
  rcases H1.out.2.1 with h | ⟨hA, cur', h, hs⟩
  · exact .inl h
  · refine .inr ⟨cur', blk_far h (p := ⟨D, 1, none⟩) ?_ _, hs⟩
    rcases hne with h0 | h0
    · rw [hA] at h0; cases h0
    · exact Ne.symm h0
theorem own_touch {base e size n D gS : Nat} {A : Option Addr} {v : Value} {xs : List Value} {w w' : World} (h : w.ownsRow base e size v n xs) (ht : Touch D gS A w w') (h1 : ∀ g, v.ownBlock = some g → g ≠ D ∧ g ≠ gS ∧ ∀ a, A = some a → g ≠ a.block) : w'.ownsRow base e size v n xs := by
  refine ⟨h.1, ?_⟩
  rcases h.2 with h0 | ⟨g, cap, cur, he, hg, hh, hc⟩
  · exact .inl h0
  · have hb := h1 g (by rw [he]; rfl)
    exact .inr ⟨g, cap, cur, he, hg, (ht.block g (blk_lt hh) hb.1 hb.2.1 hb.2.2).trans hh, hc⟩
theorem own_ne {base n gS : Nat} {v : Value} {xs : List Value} {w : World} {cS : Array Value} (h : w.ownsRow base 56 17 v n xs) (hs : w.heap[gS]? = some (.cells cS 54 (0, 0))) : ∀ g, v.ownBlock = some g → g ≠ gS := by
  intro g hg
  rcases h.2 with ⟨rfl, _⟩ | ⟨g', cap, cur, rfl, _, hh, _⟩
  · simp [Value.ownBlock] at hg
  · simp only [Value.ownBlock, Option.some.injEq] at hg
    subst hg
    exact blk_ne hh hs (by decide)
theorem Touch.drew {D gS : Nat} {A : Option Addr} {w w' : World} (h : Touch D gS A w w') : Touch D gS A w w'.drew := h.below (below_drew (Below.refl _ _))
theorem Touch.two {D gS : Nat} {A : Option Addr} {w w1 w2 : World} (h1 : Touch gS gS none w w1) (h2 : Touch D D A w1 w2) : Touch D gS A w w2 :=
  ⟨h2.os.trans h1.os, h2.tape.trans h1.tape, h2.output.trans h1.output, Nat.le_trans h1.size h2.size, fun k hk a b c => (h2.block k (Nat.lt_of_lt_of_le hk h1.size) a a c).trans (h1.block k hk b b (fun _ ha => by cases ha))⟩
/-- What is known of the row of those that wait, ahead of its being let go. -/
def WaitRow (base : Nat) (A : Option Addr) (n cW g : Nat) (cur : Array Value) (w : World) : Prop :=
  (A = none ∧ cW = 0) ∨ (A = some ⟨g, 0, none⟩ ∧ w.heap[g]? = some (.cells cur 56 (0, 0)) ∧ n * 17 ≤ cur.size ∧ base ≤ g ∧ cW ≤ maxLen ∧ cur.size = cW * 17)
theorem wait_row {base cW n : Nat} {A : Option Addr} {xs : List Value} {w : World} (h : w.ownsRow base 56 17 (.slice A n cW) n xs) : n ≤ cW ∧ ∃ g cur, WaitRow base A n cW g cur w := by
  rcases h.2 with ⟨he, hn⟩ | ⟨g, cap, cur, he, hg, hh, hc, hm, hs, _⟩
  · injection he with hA _ hcW
    exact ⟨by omega, 0, #[], .inl ⟨hA, hcW⟩⟩
  · injection he with hA _ hcap
    subst hcap
    exact ⟨hc, g, cur, .inr ⟨hA, hh, by rw [hs]; exact Nat.mul_le_mul_right _ hc, hg, hm, hs⟩⟩
/-- The disk behind its having let go what waited. -/
theorem forgot {base D gS cW n g : Nat} {A : Option Addr} {cur : Array Value} {S : List (List Int)} {w w' : World} {len : Nat} (hlen : S.length = len) (hb : base ≤ D) (hbS : base ≤ gS) (hD0 : w.heap[D]? = some (.cells #[.slice (some ⟨gS, 0, none⟩) len len, .slice A n cW] 51 (0, 0))) (hR : RowAt secC 16 54 gS S w) (hG : WaitRow base A n cW g cur w)
    (hD : w'.heap[D]? = some (.cells #[.slice (some ⟨gS, 0, none⟩) len len, .slice A 0 cW] 51 (0, 0))) (hA : A = none ∨ ∃ cur', w'.heap[g]? = some (.cells cur' 56 (0, 0)) ∧ cur'.size = cur.size) (hT : Touch D D A w w') : DiskAt base D gS A cW S [] w' := by
  subst hlen
  obtain ⟨cS, hcS, h1, h2⟩ := hR
  have hne : gS ≠ D := (blk_ne hD0 hcS (by decide)).symm
  refine ⟨hD, hb, hbS, ⟨cS, ?_, h1, h2⟩, rfl, ?_⟩
  · refine (hT.block gS (blk_lt hcS) hne hne (fun a ha => ?_)).trans hcS
    rcases hG with ⟨h0, _⟩ | ⟨h0, hh, _⟩
    · rw [h0] at ha; cases ha
    · rw [h0] at ha
      obtain rfl := Option.some.inj ha
      exact (blk_ne hh hcS (by decide)).symm
  · rcases hG with ⟨h0, h3⟩ | ⟨h0, hh, _, hg, hm, hs⟩
    · subst h0; subst h3
      exact .inl ⟨rfl, rfl⟩
    · subst h0
      rcases hA with hA | ⟨cur', hc', hs'⟩
      · cases hA
      · exact .inr ⟨g, cW, cur', rfl, hg, hc', Nat.zero_le _, hm, by rw [hs', hs], by simp⟩
set_option maxHeartbeats 2000000 in
set_option maxRecDepth 100000 in
theorem sync_walk (base D gS cW : Nat) (A : Option Addr) (S : List (List Int)) (W : List (Int × List Int)) (w : World) (h : DiskAt base D gS A cW S W w) (hv : ∀ p ∈ W, 0 ≤ p.1 ∧ p.1 < (S.length : Int) ∧ p.2.length = 16) (hn : W.length < 1099511627776) :
    Calls Try.prog 15 #[.pointer (some ⟨D, 0, none⟩)] w fun x w' => x = .returned (.tuple #[]) ∧ DiskAt base D gS A cW (applyW S W) [] w' ∧ Touch D gS A w w' := by
  have q1 : w.cell? ⟨D, 1, none⟩ = some (.slice A W.length cW) := (blk_cell h.1 1).trans rfl
  have H := Aside0.mk h
  have HV := Aside0.mk hv
  have HWn := Aside0.mk hn
  obtain ⟨cS0, hcS0, _⟩ := h.2.2.2.1
  have HDS := Aside0.mk (blk_ne h.1 hcS0 (by decide))
  have HON := Aside0.mk (own_ne h.2.2.2.2 hcS0)
  clear h hv hn hcS0
  go_enter Try.func15, Try.ntmps15
  go_wp2_with fail
  go_loopg [9] W.length (fun kq v9 w' => ∃ j : Nat, v9 = .int .i64 (j : Int) ∧ Aside0 (j + kq = W.length) ∧ Aside0 (RowAt secC 16 54 gS (applyW S (W.take j)) w') ∧ Aside0 (Touch gS gS none w w'))
  case atStart => exact ⟨0, rfl, ⟨by omega⟩, ⟨H.out.2.2.2.1⟩, ⟨Touch.refl _ _ _ _⟩⟩
  case round =>
    obtain ⟨j, rfl, HJ, HRS, HT⟩ := hrel
    have HD := Aside0.mk ((HT.out.block D (blk_lt H.out.1) HDS.out HDS.out (fun a ha => by cases ha)).trans H.out.1)
    have HO := Aside0.mk (own_touch H.out.2.2.2.2 HT.out (fun g hg => ⟨HON.out g hg, HON.out g hg, fun a ha => by cases ha⟩))
    by_cases hlt : j < W.length
    · obtain ⟨p, hp⟩ : ∃ p, W[j]? = some p := ⟨_, List.getElem?_eq_getElem hlt⟩
      have hpv := HV.out p (List.mem_of_getElem? hp)
      obtain ⟨gW, eA, _, cWr, hcW, _, hrow⟩ := wr_row HO.out (fun q hq => (HV.out q hq).2.2) (by omega)
      obtain ⟨cS, hcS, hcl, hrS⟩ := HRS.out
      rw [applyW_len] at hcl
      subst eA
      have HcS := Aside0.mk hcS
      have HrS := Aside0.mk hrS
      have Hcl := Aside0.mk hcl
      have HcW := Aside0.mk hcW
      have HP := Aside0.mk (hrow j p hp).2
      have HPl := Aside0.mk (hrow j p hp).1
      have HPz := Aside0.mk (show (wrC p).toArray.size = 17 by rw [List.size_toArray]; exact HPl.out)
      have HPi := Aside0.mk (show (Try.prog.info? 56).map (·.size) = some (wrC p).length by rw [HPl.out]; kernel_rfl)
      have HP16 := Aside0.mk (show (secC p.2).length = 16 by rw [secC_len]; exact hpv.2.2)
      have HPs := Aside0.mk (show (secC p.2).toArray.size = 16 by rw [List.size_toArray]; exact HP16.out)
      have HPj := Aside0.mk (show (Try.prog.info? 54).map (·.size) = some (secC p.2).length by rw [HP16.out]; kernel_rfl)
      have HQ := Aside0.mk hp
      have HPV := Aside0.mk hpv
      have p1 : decide ((j : Int) < (W.length : Int)) = true := decide_eq_true (by omega)
      have p2 := eq_true (show 0 ≤ (j : Int) by omega)
      have p3 := eq_true (show (j : Int) < (W.length : Int) by omega)
      have p4 := eq_true hpv.1
      have p5 := eq_true hpv.2.1
      have HLT := Aside0.mk hlt
      have Hfit := Aside0.mk (show p.1.toNat * 16 + 16 ≤ cS.size by have := hpv.1; have := hpv.2.1; omega)
      clear hcW hrow hp hlt hpv hcS hrS hcl q1
      go_wp2_with (first | ((with_reducible refine gate_ (.load 56 (.tmp 11)) rfl ?_); refine wpList_load_at rfl 56 (.tmp 11) rfl gW (j * 17) ⟨gW, j * 17, none⟩ rfl rfl 56 cWr (wrC p) (0, 0) _ HcW.out HP.out Try.underlying56 rfl HPi.out ?_) | ((with_reducible refine gate_store (t := 56) (p := 3) rfl ?_); refine wpList_store_row rfl 56 _ _ rfl wr.heap.size _ rfl rfl 56 _ (blk_new wr _) (by rw [HPz.out]; kernel_rfl) (by rw [HPz.out]; rfl) (wrC_all p) ?_; obtain ⟨w2, hw2⟩ : ∃ w2, w2 = (wr.alloc (.cells #[.int .i64 0, .int .u8 0, .int .u8 0, .int .u8 0, .int .u8 0, .int .u8 0, .int .u8 0, .int .u8 0, .int .u8 0, .int .u8 0, .int .u8 0, .int .u8 0, .int .u8 0, .int .u8 0, .int .u8 0, .int .u8 0, .int .u8 0] 56)).setRow wr.heap.size (wrC p).toArray := ⟨_, rfl⟩; rw [← hw2]; have HB2 := Aside0.mk (show Below wr.heap.size wr w2 by rw [hw2]; exact bset (below_alloc (Below.refl _ _) _) (Nat.le_refl _) _); have HC2 := Aside0.mk (show w2.heap[wr.heap.size]? = some (.cells (wrC p).toArray 56 (0, 0)) by rw [hw2]; exact setRow_heap _ _ _ _ _ _ (blk_new wr _)); clear hw2; have q2 : w2.cell? ⟨wr.heap.size, 0, none⟩ = some (.int .i64 p.1) := (blk_cell HC2.out 0).trans rfl; have q3 : w2.cell? ⟨D, 0, none⟩ = some (.slice (some ⟨gS, 0, none⟩) S.length S.length) := (blk_cell (blk_below HD.out HB2.out) 0).trans rfl; have HcS2 := Aside0.mk (blk_below HcS.out HB2.out)))
      go_still_tail 9, (by kernel_rfl)
      refine wpStill_load_at rfl 54 (.tmp 19) rfl wr.heap.size 1 ⟨wr.heap.size, 1, none⟩ rfl rfl 56 (wrC p).toArray (secC p.2) (0, 0) _ (blk_drew HC2.out) (wr_tail p) Try.underlying54 rfl HPj.out ?_
      repeat still_step
      refine wpStill_nil ?_
      change wpList _ _ _ _ _ w2.drew
      refine wpList_store_at rfl 54 (.tmp 21) (.tmp 20) rfl gS (p.1.toNat * 16) ⟨gS, p.1.toNat * 16, none⟩ (secC p.2).toArray rfl rfl rfl 54 cS (blk_drew HcS2.out) (by rw [HPs.out]; kernel_rfl) (by rw [HPs.out]; exact Hfit.out) (secC_all p.2) ?_
      obtain ⟨w3, hw3⟩ : ∃ w3, w3 = w2.drew.setRow gS (splice cS.toList (p.1.toNat * 16) (secC p.2).toArray.toList).toArray := ⟨_, rfl⟩
      rw [← hw3]
      have HT3 := Aside0.mk (show Touch gS gS none w w3 by rw [hw3]; exact ((HT.out.below HB2.out).drew).row _)
      have HR3 := Aside0.mk (show RowAt secC 16 54 gS ((applyW S (W.take j)).set p.1.toNat p.2) w3 by
        rw [hw3]
        have hlen := applyW_len (W.take j) S
        have hp1 := HPV.out
        exact RowAt.set (blk_drew HcS2.out) (by rw [hlen]; exact Hcl.out) HrS.out (by rw [hlen]; omega) HP16.out)
      clear hw3 q2 q3
      go_wp2
      obtain ⟨k1, rfl⟩ : ∃ k1, gk = k1 + 1 := ⟨gk - 1, by have := HJ.out; have := HLT.out; omega⟩
      go_roundg k1
      case measure => omega
      case rel =>
        refine ⟨j + 1, ?_, ⟨by have := HJ.out; omega⟩, ⟨?_⟩, HT3⟩
        · exact congrArg (Value.int .i64) (widx (by have := HLT.out; have := HWn.out; omega))
        · rw [applyW_step HQ.out]
          exact HR3.out
    · obtain rfl : j = W.length := by have := HJ.out; omega
      have p1 : decide (((W.length : Nat) : Int) < (W.length : Int)) = false := decide_eq_false (by omega)
      rw [List.take_length] at HRS
      clear hlt q1
      obtain ⟨hcap, g, cur, hgA⟩ := wait_row HO.out
      have HG := Aside0.mk hgA
      have HCAP := Aside0.mk hcap
      clear hgA hcap
      go_wp2_with fail
      refine (forget_walk D D (.slice (some ⟨gS, 0, none⟩) S.length S.length) A W.length cW g cur wr HD.out (by rcases HG.out with h | h; exact .inl h.1; exact .inr ⟨h.1, h.2.1, h.2.2.1⟩) HCAP.out).mono ?_
      rintro x w4 ⟨rfl, hD4, hG4, hT4⟩
      have HD4 := Aside0.mk hD4
      have HG4 := Aside0.mk hG4
      have HT4 := Aside0.mk hT4
      clear hD4 hG4 hT4
      go_wp2
      go_end0
      exact ⟨rfl, forgot (applyW_len W S) H.out.2.1 H.out.2.2.1 HD.out HRS.out HG.out HD4.out HG4.out HT4.out, HT.out.two HT4.out⟩
end Go.Proofs.Ytfmgealooebciaa.PAll
