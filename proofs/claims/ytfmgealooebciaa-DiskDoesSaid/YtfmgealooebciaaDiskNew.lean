/- New of the disk, in memory. -/
import Derived.Test.YtfmgealooebciaaDiskSync
namespace Go.Proofs.Ytfmgealooebciaa.PAll
open Go.RowKit Go.Proofs.YtfmgealooebciaaW.PrintWords Go.Proofs.YtfmgealooebciaaW.PrintLast Go.Proofs.YtfmgealooebciaaW.PrintMore
attribute [local go_sem] max2_int min2_int max_two min_two max_three min_three max_four min_four
set_option linter.unusedVariables false
set_option linter.unusedSimpArgs false
theorem info54 : ∃ i, Try.prog.info? 54 = some i ∧ i.zero = some (.agg #[.int .u8 0, .int .u8 0, .int .u8 0, .int .u8 0, .int .u8 0, .int .u8 0, .int .u8 0, .int .u8 0, .int .u8 0, .int .u8 0, .int .u8 0, .int .u8 0, .int .u8 0, .int .u8 0, .int .u8 0, .int .u8 0]) ∧ i.size = 16 ∧ i.bytes = 16 :=
  ⟨(Try.prog.info? 54).get (by kernel_rfl), (Option.some_get _).symm, by kernel_rfl, by kernel_rfl, by kernel_rfl⟩
theorem row_of_reps {g : Nat} {xs : List (List Int)} {w : World} {cur : Array Value} (hh : w.heap[g]? = some (.cells cur 54 (0, 0))) (hr : Reps (fun (p : List Int) c => c = secC p) 16 xs cur.toList) : RowAt secC 16 54 g xs w := by
  have hl : cur.size = xs.length * 16 := by have := hr.1; rwa [Array.length_toList] at this
  refine ⟨cur, hh, by omega, fun i x hx => ?_⟩
  have e := hr.2 i x hx
  simp only at e
  have hi : i < xs.length := (List.getElem?_eq_some_iff.1 hx).1
  refine ⟨by rw [← e, List.length_take, List.length_drop, Array.length_toList]; omega, fun j v hv => ?_⟩
  rw [← e, List.getElem?_take, List.getElem?_drop, Array.getElem?_toList] at hv
  split at hv
  · exact hv
  · cases hv
/-- A sector of noughts. -/
def zeroS : List Int := List.replicate 16 0
set_option maxHeartbeats 1000000 in
set_option maxRecDepth 100000 in
theorem new_walk (n m1 : Int) (m : Nat) (w : World) (hm1 : (if n < 1 then (1 : Int) else n) = m1) (hm2 : (if 512 < m1 then (512 : Int) else m1) = (m : Int)) (hm : m ≤ 512) :
    Calls Try.prog 11 #[.int .i64 n] w fun x w' => ∃ D gS, x = .returned (.pointer (some ⟨D, 0, none⟩)) ∧ DiskAt w.heap.size D gS none 0 (List.replicate m zeroS) [] w' ∧ Below w.heap.size w w' := by
  obtain ⟨i54, hi, hz, hsz, hby⟩ := info54
  have hmk := fun W => run_make (P := Try.prog) W 48 54 i54 _ Try.underlying48 hi hz .i64 .i64 (m : Int) (m : Int) (Int.natCast_nonneg m) (Int.le_refl _) (by rw [hby]; omega) (by omega)
  simp only [Int.toNat_natCast, hsz] at hmk
  obtain ⟨cur, hcur⟩ : ∃ cur, cur = madeCells (Value.agg #[.int .u8 0, .int .u8 0, .int .u8 0, .int .u8 0, .int .u8 0, .int .u8 0, .int .u8 0, .int .u8 0, .int .u8 0, .int .u8 0, .int .u8 0, .int .u8 0, .int .u8 0, .int .u8 0, .int .u8 0, .int .u8 0]).cells (m * 16) := ⟨_, rfl⟩
  rw [← hcur] at hmk
  have HCUR := Aside0.mk hcur
  clear hcur hi hz hsz hby
  go_enter Try.func11, Try.ntmps11
  go_wp2
  go_ret
  have hrep : Reps (fun (p : List Int) c => c = secC p) 16 (List.replicate m zeroS) cur.toList := by
    rw [HCUR.out]
    exact Kd.reps_made (R := fun (p : List Int) c => c = secC p) (z0 := zeroS) (size := 16) (z := .agg #[.int .u8 0, .int .u8 0, .int .u8 0, .int .u8 0, .int .u8 0, .int .u8 0, .int .u8 0, .int .u8 0, .int .u8 0, .int .u8 0, .int .u8 0, .int .u8 0, .int .u8 0, .int .u8 0, .int .u8 0, .int .u8 0]) rfl (by decide) rfl m
  have h0 : (w.alloc (.cells cur 54)).heap[w.heap.size]? = some (.cells cur 54 (0, 0)) := blk_new w _
  have h1 := blk_new (w.alloc (.cells cur 54)) (.cells #[.slice (some ⟨w.heap.size, 0, none⟩) m m, .slice none 0 0] 51)
  rw [show (w.alloc (.cells cur 54)).heap.size = w.heap.size + 1 by simp] at h1
  refine ⟨w.heap.size + 1, w.heap.size, rfl, ⟨?_, Nat.le_succ _, Nat.le_refl _, row_of_reps (blk_alloc h0 _) hrep, rfl, .inl ⟨rfl, rfl⟩⟩, below_alloc (below_alloc (Below.refl _ _) _) _⟩
  rw [List.length_replicate]
  exact h1
end Go.Proofs.Ytfmgealooebciaa.PAll
