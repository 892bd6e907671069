/- The disk in memory, and Read. -/
import Derived.Test.YtfmgealooebciaaDiskMem
import Derived.Test.YtfmgealooebciaaDiskClone
namespace Go.Proofs.Ytfmgealooebciaa.PAll
open Go.RowKit Go.Proofs.YtfmgealooebciaaW.PrintWords Go.Proofs.YtfmgealooebciaaW.PrintLast Go.Proofs.YtfmgealooebciaaW.PrintMore
set_option linter.unusedVariables false
set_option linter.unusedSimpArgs false
/-- A sector's cells, and those of a write that waits. -/
def secC (s : List Int) : List Value := s.map (Value.int .u8)
def wrC (p : Int × List Int) : List Value := .int .i64 p.1 :: secC p.2
theorem secC_len (s : List Int) : (secC s).length = s.length := List.length_map _
/-- A block that begins with so many elements of one size: element i's cells. -/
def RowAt {α : Type} (enc : α → List Value) (size : Nat) (e : TypeId) (g : Nat) (xs : List α) (w : World) : Prop :=
  ∃ cur, w.heap[g]? = some (.cells cur e (0, 0)) ∧ xs.length * size ≤ cur.size ∧ ∀ i x, xs[i]? = some x → (enc x).length = size ∧ ∀ j v, (enc x)[j]? = some v → cur[i * size + j]? = some v
/-- The disk at D: sectors at block gS, those that wait at A, where cW fit. -/
def DiskAt (base D gS : Nat) (A : Option Addr) (cW : Nat) (S : List (List Int)) (W : List (Int × List Int)) (w : World) : Prop :=
  w.heap[D]? = some (.cells #[.slice (some ⟨gS, 0, none⟩) S.length S.length, .slice A W.length cW] 51 (0, 0)) ∧ base ≤ D ∧ base ≤ gS ∧ RowAt secC 16 54 gS S w ∧ w.ownsRow base 56 17 (.slice A W.length cW) W.length (W.flatMap wrC)
theorem flat_get {α : Type} {enc : α → List Value} {size : Nat} : ∀ (xs : List α), (∀ x ∈ xs, (enc x).length = size) → ∀ (i : Nat) (x : α), xs[i]? = some x → ∀ (j : Nat) (v : Value), (enc x)[j]? = some v → (xs.flatMap enc)[i * size + j]? = some v
  | [], _, i, x, hx, _, _, _ => by simp at hx
  | y :: xs, hl, i, x, hx, j, v, hv => by
    have hy := hl y (by simp)
    rw [List.flatMap_cons]
    cases i with
    | zero =>
      simp only [List.getElem?_cons_zero, Option.some.injEq] at hx
      subst hx
      have hj : j < (enc y).length := (List.getElem?_eq_some_iff.1 hv).1
      rw [Nat.zero_mul, Nat.zero_add, List.getElem?_append_left hj]
      exact hv
    | succ i =>
      rw [List.getElem?_cons_succ] at hx
      rw [List.getElem?_append_right (by rw [hy, Nat.succ_mul]; omega), hy, show (i + 1) * size + j - size = i * size + j by rw [Nat.succ_mul]; omega]
      exact flat_get xs (fun z hz => hl z (by simp [hz])) i x hx j v hv
theorem wr_row {base cW : Nat} {A : Option Addr} {W : List (Int × List Int)} {w : World} (h : w.ownsRow base 56 17 (.slice A W.length cW) W.length (W.flatMap wrC)) (hl : ∀ p ∈ W, p.2.length = 16) (hn : 0 < W.length) :
    ∃ gW, A = some ⟨gW, 0, none⟩ ∧ base ≤ gW ∧ RowAt wrC 17 56 gW W w := by
  rcases h.2 with ⟨_, h0⟩ | ⟨g, cap, cur, he, hg, hh, hc, _, hs, ht⟩
  · omega
  · injection he with hA _ _
    refine ⟨g, hA, hg, cur, hh, by rw [hs]; exact Nat.mul_le_mul_right _ hc, fun i x hx => ?_⟩
    have hwl : ∀ p ∈ W, (wrC p).length = 17 := fun p hp => by rw [wrC, List.length_cons, secC_len, hl p hp]
    refine ⟨hwl x (List.mem_of_getElem? hx), fun j v hv => ?_⟩
    have h1 := flat_get W hwl i x hx j v hv
    have hj : j < 17 := by rw [← hwl x (List.mem_of_getElem? hx)]; exact (List.getElem?_eq_some_iff.1 hv).1
    have hi : i < W.length := (List.getElem?_eq_some_iff.1 hx).1
    rw [← ht, List.getElem?_take, if_pos (by have := Nat.mul_le_mul_right 17 (Nat.succ_le_of_lt hi); rw [Nat.succ_mul] at this; omega), Array.getElem?_toList] at h1
    exact h1
theorem own_below' {w w' : World} {base e size n : Nat} {v : Value} {xs : List Value} (h : w.ownsRow base e size v n xs) (hb : Below w.heap.size w w') : w'.ownsRow base e size v n xs := by
  refine ⟨h.1, ?_⟩
  rcases h.2 with h0 | ⟨g, cap, cur, he, hg, hh, hc⟩
  · exact .inl h0
  · exact .inr ⟨g, cap, cur, he, hg, blk_below hh hb, hc⟩
/-- What is read of a sector. -/
def readW (i : Int) : List (Int × List Int) → List Int → List Int
  | [], s => s
  | p :: W, s => readW i W (if p.1 = i then p.2 else s)
theorem RowAt.below {α : Type} {enc : α → List Value} {size : Nat} {e : TypeId} {g : Nat} {xs : List α} {w w' : World} (h : RowAt enc size e g xs w) (hb : Below w.heap.size w w') : RowAt enc size e g xs w' := by
  obtain ⟨cur, h1, h2, h3⟩ := h
  exact ⟨cur, blk_below h1 hb, h2, h3⟩
theorem DiskAt.below {base D gS cW : Nat} {A : Option Addr} {S : List (List Int)} {W : List (Int × List Int)} {w w' : World} (h : DiskAt base D gS A cW S W w) (hb : Below w.heap.size w w') : DiskAt base D gS A cW S W w' :=
  ⟨blk_below h.1 hb, h.2.1, h.2.2.1, h.2.2.2.1.below hb, own_below' h.2.2.2.2 hb⟩
theorem secC_all (s : List Int) : (secC s).toArray.all (·.oneCell') = true := by
  rw [Array.all_eq_true_iff_forall_mem]
  intro x hx
  simp only [List.mem_toArray, secC, List.mem_map] at hx
  obtain ⟨y, -, rfl⟩ := hx
  rfl
theorem wrC_all (p : Int × List Int) : (wrC p).toArray.all (·.oneCell') = true := by
  rw [Array.all_eq_true_iff_forall_mem]
  intro x hx
  simp only [wrC, secC, List.mem_toArray, List.mem_cons, List.mem_map] at hx
  rcases hx with rfl | ⟨y, -, rfl⟩ <;> rfl
theorem bset {B g : Nat} {w0 w : World} (hb : Below B w0 w) (hBg : B ≤ g) (cs : Array Value) : Below B w0 (w.setRow g cs) :=
  ⟨hb.os, hb.tape, hb.output, Nat.le_trans hb.size (Nat.le_of_eq (size_setRow _ _ _).symm), fun b hlt => (setRow_other w g b cs (by omega)).trans (hb.block b hlt)⟩
set_option maxHeartbeats 1000000 in
set_option maxRecDepth 100000 in
theorem read_no (base D gS cW : Nat) (A : Option Addr) (S : List (List Int)) (W : List (Int × List Int)) (i : Int) (w : World) (h : DiskAt base D gS A cW S W w) (hi : (decide (i ≥ 0) = false) ∨ (decide (i ≥ 0) = true ∧ decide (i < (S.length : Int)) = false)) :
    Calls Try.prog 19 #[.pointer (some ⟨D, 0, none⟩), .int .i64 i] w fun x w' => x = .returned (.tuple #[.slice none 0 0, .int .i64 1]) ∧ w' = w := by
  have q0 : w.cell? ⟨D, 0, none⟩ = some (.slice (some ⟨gS, 0, none⟩) S.length S.length) := (blk_cell h.1 0).trans rfl
  clear h
  rcases hi with hi | ⟨hi, hj⟩
  all_goals
    go_enter Try.func19, Try.ntmps19
    go_wp2
    go_ret2
    exact ⟨rfl, rfl⟩
theorem readW_len (i : Int) : ∀ (W : List (Int × List Int)) (s : List Int), s.length = 16 → (∀ p ∈ W, p.2.length = 16) → (readW i W s).length = 16
  | [], s, hs, _ => hs
  | p :: W, s, hs, hr => by
    rw [readW]
    refine readW_len i W _ ?_ (fun q hq => hr q (by simp [hq]))
    split
    · exact hr p (by simp)
    · exact hs
theorem readC_size (i : Int) {W : List (Int × List Int)} {s : List Int} (hs : s.length = 16) (hr : ∀ p ∈ W, p.2.length = 16) (j : Nat) : (secC (readW i (W.take j) s)).toArray.size = 16 := by
  rw [List.size_toArray, secC_len]
  exact readW_len i _ s hs (fun p hp => hr p (List.mem_of_mem_take hp))
theorem readW_append (i : Int) (p : Int × List Int) : ∀ (W : List (Int × List Int)) (s : List Int), readW i (W ++ [p]) s = if p.1 = i then p.2 else readW i W s
  | [], s => rfl
  | q :: W, s => by rw [List.cons_append, readW, readW_append i p W, readW]
theorem readW_step (i : Int) {W : List (Int × List Int)} {j : Nat} {p : Int × List Int} (hp : W[j]? = some p) (s : List Int) : readW i (W.take (j + 1)) s = if p.1 = i then p.2 else readW i (W.take j) s := by
  rw [List.take_add_one, hp, Option.toList_some, readW_append]
theorem wr_tail (p : Int × List Int) (j : Nat) (v : Value) (hv : (secC p.2)[j]? = some v) : (wrC p).toArray[1 + j]? = some v := by
  rw [Nat.add_comm, List.getElem?_toArray]
  exact hv
theorem add_zero_at (g j : Nat) : (⟨g, 0, none⟩ : Addr).add j = ⟨g, j, none⟩ := by
  unfold Addr.add
  split <;> simp_all
theorem secC_C {w : World} {g : Nat} {e : TypeId} {l : List Int} (h : w.heap[g]? = some (.cells (secC l).toArray e (0, 0))) (hl : l.length = 16) : Kd.C (Kd.int .u8) w (some ⟨g, 0, none⟩) l.length l := by
  refine ⟨rfl, by omega, fun _ => ⟨⟨g, 0, none⟩, rfl, fun j p hp => ⟨[.int .u8 p], rfl, rfl, fun i u hu => ?_⟩⟩⟩
  cases i with
  | succ i => simp at hu
  | zero =>
    simp only [List.getElem?_cons_zero, Option.some.injEq] at hu
    subst hu
    rw [add_zero_at, cell_of_row w g _ _ _ _ h, List.getElem?_toArray]
    show (secC l)[j * 1 + 0]? = _
    rw [Nat.mul_one, Nat.add_zero, secC, List.getElem?_map, hp]
    rfl
theorem widx {i : Nat} (h : i < 1099511627776) : wrap64 ((i : Int) + 1) = ((i + 1 : Nat) : Int) := by unfold wrap64; omega
set_option maxHeartbeats 2000000 in
set_option maxRecDepth 100000 in
theorem read_yes (base D gS cW : Nat) (A : Option Addr) (S : List (List Int)) (W : List (Int × List Int)) (i : Int) (s : List Int) (w : World) (h : DiskAt base D gS A cW S W w) (hi : decide (i ≥ 0) = true) (hj : decide (i < (S.length : Int)) = true) (hs : S[i.toNat]? = some s) (hl : s.length = 16) (hn : W.length < 1099511627776) (hr : ∀ p ∈ W, p.2.length = 16) :
    Calls Try.prog 19 #[.pointer (some ⟨D, 0, none⟩), .int .i64 i] w fun x w' => ∃ v, x = .returned (.tuple #[v, .int .i64 0]) ∧ Kd.R (Kd.int .u8) 5 w' w.heap.size (fun _ => True) v (readW i W s) ∧ Below w.heap.size w w' := by
  have q0 : w.cell? ⟨D, 0, none⟩ = some (.slice (some ⟨gS, 0, none⟩) S.length S.length) := (blk_cell h.1 0).trans rfl
  have q1 : w.cell? ⟨D, 1, none⟩ = some (.slice A W.length cW) := (blk_cell h.1 1).trans rfl
  obtain ⟨cS, hcS, _, hS⟩ := h.2.2.2.1
  have HS := Aside0.mk (hS i.toNat s hs).2
  have HSl := Aside0.mk (hS i.toNat s hs).1
  have HcS := Aside0.mk hcS
  have H := Aside0.mk h
  have HR := Aside0.mk hr
  have HWn := Aside0.mk hn
  have HRl := Aside0.mk (fun j => readC_size i hl hr j)
  clear h hcS hS hs hr hl hn
  have i0 : 0 ≤ i := of_decide_eq_true hi
  have i1 : i < (S.length : Int) := of_decide_eq_true hj
  replace i0 := eq_true i0
  replace i1 := eq_true i1
  go_enter Try.func19, Try.ntmps19
  have hi16 : (Try.prog.info? 54).map (·.size) = some (secC s).length := by rw [HSl.out]; kernel_rfl
  have HI := Aside0.mk hi16
  clear hi16
  have HZ := Aside0.mk (show (secC s).toArray.size = 16 by rw [List.size_toArray]; exact HSl.out)
  go_wp2_with (first | (go_at_call 24; go_in) | ((with_reducible refine gate_ (.load 54 (.tmp 18)) rfl ?_); refine wpList_load_at rfl 54 (.tmp 18) rfl gS (i.toNat * 16) ⟨gS, i.toNat * 16, none⟩ rfl rfl 54 cS (secC s) (0, 0) _ HcS.out HS.out Try.underlying54 rfl HI.out ?_) | ((with_reducible refine gate_store (t := 54) (p := 6) rfl ?_); refine wpList_store_row rfl 54 _ _ rfl w.heap.size _ rfl rfl 54 _ (blk_new w _) (by rw [HZ.out]; kernel_rfl) (by rw [HZ.out]; rfl) (secC_all s) ?_; obtain ⟨w1, hw1⟩ : ∃ w1, w1 = (w.alloc (.cells #[.int .u8 0, .int .u8 0, .int .u8 0, .int .u8 0, .int .u8 0, .int .u8 0, .int .u8 0, .int .u8 0, .int .u8 0, .int .u8 0, .int .u8 0, .int .u8 0, .int .u8 0, .int .u8 0, .int .u8 0, .int .u8 0] 54)).setRow w.heap.size (secC s).toArray := ⟨_, rfl⟩; rw [← hw1]; have HB1 := Aside0.mk (show Below w.heap.size w w1 by rw [hw1]; exact bset (below_alloc (Below.refl _ _) _) (Nat.le_refl _) _); have HC1 := Aside0.mk (show w1.heap[w.heap.size]? = some (.cells (secC s).toArray 54 (0, 0)) by rw [hw1]; exact setRow_heap _ _ _ _ _ _ (blk_new w _)); clear hw1; have q1 : w1.cell? ⟨D, 1, none⟩ = some (.slice A W.length cW) := (blk_cell (H.out.below HB1.out).1 1).trans rfl))
  go_loopg [25] W.length (fun kq v25 w' => ∃ j : Nat, v25 = .int .i64 (j : Int) ∧ Aside0 (j + kq = W.length) ∧ Aside0 (w'.heap[w.heap.size]? = some (.cells (secC (readW i (W.take j) s)).toArray 54 (0, 0))) ∧ Aside0 (Below w.heap.size w w'))
  case atStart => exact ⟨0, rfl, ⟨by omega⟩, ⟨HC1.out⟩, HB1⟩
  case round =>
    obtain ⟨j, rfl, HJ, HCw, HBw⟩ := hrel
    have HWl := Aside0.mk (H.out.below HBw.out)
    by_cases hlt : j < W.length
    · obtain ⟨p, hp⟩ : ∃ p, W[j]? = some p := ⟨_, List.getElem?_eq_getElem hlt⟩
      obtain ⟨gW, eA, _, cWr, hcW, _, hrow⟩ := wr_row HWl.out.2.2.2.2 HR.out (by omega)
      subst eA
      have HcW := Aside0.mk hcW
      have HP := Aside0.mk (hrow j p hp).2
      have HPl := Aside0.mk (hrow j p hp).1
      have HPz := Aside0.mk (show (wrC p).toArray.size = 17 by rw [List.size_toArray]; exact HPl.out)
      have HPi := Aside0.mk (show (Try.prog.info? 56).map (·.size) = some (wrC p).length by rw [HPl.out]; kernel_rfl)
      have HP16 := Aside0.mk (show (secC p.2).length = 16 by rw [secC_len]; exact HR.out p (List.mem_of_getElem? hp))
      have HPs := Aside0.mk (show (secC p.2).toArray.size = 16 by rw [List.size_toArray]; exact HP16.out)
      have HPj := Aside0.mk (show (Try.prog.info? 54).map (·.size) = some (secC p.2).length by rw [HP16.out]; kernel_rfl)
      have HQ := Aside0.mk hp
      have p1 : decide ((j : Int) < (W.length : Int)) = true := decide_eq_true (by omega)
      have p2 := eq_true (show 0 ≤ (j : Int) by omega)
      have p3 := eq_true (show (j : Int) < (W.length : Int) by omega)
      have HLT := Aside0.mk hlt
      clear hcW hrow hp hlt q0 q1 hi hj
      by_cases c : p.1 = i
      · have cb : (p.1 == i) = true := beq_iff_eq.mpr c
        have HE := Aside0.mk c
        clear c
        go_wp2_with (first | ((with_reducible refine gate_ (.load 56 (.tmp 27)) rfl ?_); refine wpList_load_at rfl 56 (.tmp 27) rfl gW (j * 17) ⟨gW, j * 17, none⟩ rfl rfl 56 cWr (wrC p) (0, 0) _ HcW.out HP.out Try.underlying56 rfl HPi.out ?_) | ((with_reducible refine gate_store (t := 56) (p := 8) rfl ?_); refine wpList_store_row rfl 56 _ _ rfl wr.heap.size _ rfl rfl 56 _ (blk_new wr _) (by rw [HPz.out]; kernel_rfl) (by rw [HPz.out]; rfl) (wrC_all p) ?_; obtain ⟨w2, hw2⟩ : ∃ w2, w2 = (wr.alloc (.cells #[.int .i64 0, .int .u8 0, .int .u8 0, .int .u8 0, .int .u8 0, .int .u8 0, .int .u8 0, .int .u8 0, .int .u8 0, .int .u8 0, .int .u8 0, .int .u8 0, .int .u8 0, .int .u8 0, .int .u8 0, .int .u8 0, .int .u8 0] 56)).setRow wr.heap.size (wrC p).toArray := ⟨_, rfl⟩; rw [← hw2]; have HB2 := Aside0.mk (show Below wr.heap.size wr w2 by rw [hw2]; exact bset (below_alloc (Below.refl _ _) _) (Nat.le_refl _) _); have HC2 := Aside0.mk (show w2.heap[wr.heap.size]? = some (.cells (wrC p).toArray 56 (0, 0)) by rw [hw2]; exact setRow_heap _ _ _ _ _ _ (blk_new wr _)); clear hw2; have q2 : w2.cell? ⟨wr.heap.size, 0, none⟩ = some (.int .i64 p.1) := (blk_cell HC2.out 0).trans rfl; have HB2w := Aside0.mk (below_then HBw.out HBw.out.size HB2.out); have HCs := Aside0.mk (blk_below HCw.out HB2.out)) | ((with_reducible refine gate_ (.load 54 (.tmp 33)) rfl ?_); refine wpList_load_at rfl 54 (.tmp 33) rfl wr.heap.size 1 ⟨wr.heap.size, 1, none⟩ rfl rfl 56 (wrC p).toArray (secC p.2) (0, 0) _ HC2.out (wr_tail p) Try.underlying54 rfl HPj.out ?_) | ((with_reducible refine gate_store (t := 54) (p := 6) rfl ?_); refine wpList_store_row rfl 54 _ _ rfl w.heap.size _ rfl rfl 54 _ HCs.out (by rw [HPs.out]; kernel_rfl) (by rw [HPs.out]; exact HRl.out j) (secC_all p.2) ?_))
        obtain ⟨k1, rfl⟩ : ∃ k1, gk = k1 + 1 := ⟨gk - 1, by have := HJ.out; have := HLT.out; omega⟩
        go_roundg k1
        case measure => omega
        case rel =>
          refine ⟨j + 1, ?_, ⟨by have := HJ.out; omega⟩, ⟨?_⟩, ?_⟩
          · exact congrArg (Value.int .i64) (widx (by have := HLT.out; have := HWn.out; omega))
          · rw [readW_step i HQ.out s, if_pos HE.out]
            exact setRow_heap _ _ _ _ _ _ HCs.out
          · exact ⟨bset HB2w.out (Nat.le_refl _) _⟩
      · have cb : (p.1 == i) = false := beq_eq_false_iff_ne.mpr c
        have HE := Aside0.mk c
        clear c
        go_wp2_with (first | ((with_reducible refine gate_ (.load 56 (.tmp 27)) rfl ?_); refine wpList_load_at rfl 56 (.tmp 27) rfl gW (j * 17) ⟨gW, j * 17, none⟩ rfl rfl 56 cWr (wrC p) (0, 0) _ HcW.out HP.out Try.underlying56 rfl HPi.out ?_) | ((with_reducible refine gate_store (t := 56) (p := 8) rfl ?_); refine wpList_store_row rfl 56 _ _ rfl wr.heap.size _ rfl rfl 56 _ (blk_new wr _) (by rw [HPz.out]; kernel_rfl) (by rw [HPz.out]; rfl) (wrC_all p) ?_; obtain ⟨w2, hw2⟩ : ∃ w2, w2 = (wr.alloc (.cells #[.int .i64 0, .int .u8 0, .int .u8 0, .int .u8 0, .int .u8 0, .int .u8 0, .int .u8 0, .int .u8 0, .int .u8 0, .int .u8 0, .int .u8 0, .int .u8 0, .int .u8 0, .int .u8 0, .int .u8 0, .int .u8 0, .int .u8 0] 56)).setRow wr.heap.size (wrC p).toArray := ⟨_, rfl⟩; rw [← hw2]; have HB2 := Aside0.mk (show Below wr.heap.size wr w2 by rw [hw2]; exact bset (below_alloc (Below.refl _ _) _) (Nat.le_refl _) _); have HC2 := Aside0.mk (show w2.heap[wr.heap.size]? = some (.cells (wrC p).toArray 56 (0, 0)) by rw [hw2]; exact setRow_heap _ _ _ _ _ _ (blk_new wr _)); clear hw2; have q2 : w2.cell? ⟨wr.heap.size, 0, none⟩ = some (.int .i64 p.1) := (blk_cell HC2.out 0).trans rfl; have HB2w := Aside0.mk (below_then HBw.out HBw.out.size HB2.out); have HCs := Aside0.mk (blk_below HCw.out HB2.out)))
        obtain ⟨k1, rfl⟩ : ∃ k1, gk = k1 + 1 := ⟨gk - 1, by have := HJ.out; have := HLT.out; omega⟩
        go_roundg k1
        case measure => omega
        case rel =>
          refine ⟨j + 1, ?_, ⟨by have := HJ.out; omega⟩, ⟨?_⟩, ?_⟩
          · exact congrArg (Value.int .i64) (widx (by have := HLT.out; have := HWn.out; omega))
          · rw [readW_step i HQ.out s, if_neg HE.out]
            exact HCs.out
          · exact HB2w
    · obtain rfl : j = W.length := by have := HJ.out; omega
      have p1 : decide (((W.length : Nat) : Int) < (W.length : Int)) = false := decide_eq_false (by omega)
      rw [List.take_length] at HCw
      have HRW := Aside0.mk (readW_len i W s (by rw [← secC_len]; exact HSl.out) HR.out)
      clear hlt
      go_wp2_with fail
      have hC : Kd.C (Kd.int .u8) wr (some ⟨w.heap.size, 0, none⟩) (readW i W s).length (readW i W s) := secC_C HCw.out HRW.out
      rw [show (16 : Nat) = (readW i W s).length from HRW.out.symm]
      refine (slices_Clone_byte_byte.calls (some ⟨w.heap.size, 0, none⟩) _ (readW i W s) (readW i W s) wr hC (Nat.le_refl _) (by unfold slices_Clone_byte_byte.f; rw [if_pos (by have := HRW.out; omega)])).mono ?_
      rintro x w3 ⟨v, rfl, ho, hb⟩
      have HO := Aside0.mk (Kd.R_lower ho HBw.out.size)
      have HB3 := Aside0.mk (below_then HBw.out HBw.out.size hb)
      clear ho hb hC
      go_wp2
      go_ret2
      exact ⟨_, rfl, HO.out, HB3.out⟩
end Go.Proofs.Ytfmgealooebciaa.PAll
