/- The example of the chapter, over the disk in memory. -/
import Derived.Test.YtfmgealooebciaaPAllx1
import Derived.Test.YtfmgealooebciaaDiskNew
import Derived.Test.YtfmgealooebciaaDiskWrite
import Derived.Test.YtfmgealooebciaaDiskCrash
namespace Go.Proofs.Ytfmgealooebciaa.PAll
open Go.RowKit Go.Proofs.YtfmgealooebciaaW.PrintWords Go.Proofs.YtfmgealooebciaaW.PrintLast Go.Proofs.YtfmgealooebciaaW.PrintMore
set_option linter.unusedVariables false
set_option linter.unusedSimpArgs false
theorem Touch.bel {B D gS : Nat} {A : Option Addr} {w0 w w' : World} (h : Touch D gS A w w') (hb : Below B w0 w) (hBw : B ≤ w.heap.size) (hD : B ≤ D) (hS : B ≤ gS) (hA : ∀ a, A = some a → B ≤ a.block) : Below B w0 w' :=
  ⟨h.os.trans hb.os, h.tape.trans hb.tape, h.output.trans hb.output, Nat.le_trans hb.size h.size, fun k hk => (h.block k (by omega) (by omega) (by omega) (fun a ha => by have := hA a ha; omega)).trans (hb.block k hk)⟩
theorem DiskAt.base {base D gS cW : Nat} {A : Option Addr} {S : List (List Int)} {W : List (Int × List Int)} {w : World} (h : DiskAt base D gS A cW S W w) : base ≤ D ∧ base ≤ gS ∧ (∀ a, A = some a → base ≤ a.block) ∧ base ≤ w.heap.size :=
  ⟨h.2.1, h.2.2.1, blk_of_base h, by have := h.2.1; have := blk_lt h.1; omega⟩
theorem C_cells {w : World} {ad : Addr} {n : Nat} {l : List Int} (h : Kd.C (Kd.int .u8) w (some ad) n l) : ∀ j v, (secC l)[j]? = some v → w.cell? (ad.add j) = some v := by
  intro j v hv
  rw [secC, List.getElem?_map] at hv
  obtain ⟨x, hx, rfl⟩ := Option.map_eq_some_iff.1 hv
  have hj : j < l.length := (List.getElem?_eq_some_iff.1 hx).1
  have hn := h.1
  obtain ⟨ad', he, hc⟩ := Kd.at_int h (j : Int) (by omega) (by omega)
  cases he
  have e : rd l (j : Int) = x := by unfold rd; rw [Int.toNat_natCast, List.getD_eq_getElem?_getD, hx]; rfl
  rw [e] at hc
  simpa using hc
def onesS : List Int := [1, 1, 1, 1, 1, 1, 1, 1, 1, 1, 1, 1, 1, 1, 1, 1]
theorem ones_f : colloquylaw19_ones.f 30 1 = some onesS := by kernel_rfl
set_option maxHeartbeats 2000000 in
set_option maxRecDepth 100000 in
theorem awake_walk (w : World) : Calls Try.prog 9 #[] w fun x w' => x = .returned (.bool true) ∧ Below w.heap.size w w' := by
  go_enter Try.func9, Try.ntmps9
  go_wp2_with fail
  refine (new_walk 2 2 2 w rfl rfl (by decide)).mono ?_
  rintro x w1 ⟨D, gS, rfl, hd1, hb1⟩
  have HD1 := Aside0.mk hd1
  have HB1 := Aside0.mk hb1
  clear hd1 hb1
  go_wp2_with fail
  refine (colloquylaw19_ones.calls 30 1 onesS w1 ones_f).mono ?_
  rintro x w2 ⟨v, rfl, ho, hb2⟩
  obtain ⟨A1, c1, rfl⟩ := Kd.R_slice ho
  obtain ⟨ad, rfl, _⟩ := (Kd.R_reads' ho).2.2.2.2 (by decide)
  have HC := Aside0.mk (C_cells (Kd.R_reads' ho).2.2)
  have HL := Aside0.mk (Kd.R_reads' ho).2.1
  have HD2 := Aside0.mk (HD1.out.below hb2)
  have HB2 := Aside0.mk (below_then HB1.out HB1.out.size hb2)
  clear ho hb2 HD1 HB1
  go_wp2_with fail
  refine (write_yes w.heap.size D gS 0 none _ [] 0 1 1 1 1 1 1 1 1 1 1 1 1 1 1 1 1 ad c1 w2 HD2.out rfl rfl (by decide) HL.out HC.out).mono ?_
  rintro x w3 ⟨rfl, A3, cW3, hd3, ht3, _⟩
  have HD3 := Aside0.mk hd3
  have HB3 := Aside0.mk (ht3.bel HB2.out HD2.out.base.2.2.2 HD2.out.base.1 HD2.out.base.2.1 HD2.out.base.2.2.1)
  clear hd3 ht3 HD2 HB2 HC HL
  go_wp2_with fail
  refine (crash_walk w.heap.size D gS cW3 3 A3 none 0 _ _ [] 0 3 3 w3 HD3.out (by simp [zeroS]) (by decide) (Kd.F_nil _ _ _) rfl rfl (by decide)).mono ?_
  rintro x w4 ⟨rfl, hd4, ht4⟩
  have HD4 := Aside0.mk hd4
  have HB4 := Aside0.mk (ht4.bel HB3.out HD3.out.base.2.2.2 HD3.out.base.1 HD3.out.base.2.1 HD3.out.base.2.2.1)
  clear hd4 ht4 HD3 HB3
  go_wp2_with fail
  refine (read_yes w.heap.size D gS cW3 A3 _ [] 0 [1, 1, 1, 0, 0, 0, 0, 0, 0, 0, 0, 0, 0, 0, 0, 0] w4 HD4.out rfl rfl rfl rfl (by decide) (by simp)).mono ?_
  rintro x w5 ⟨v5, rfl, ho5, hb5⟩
  have HD5 := Aside0.mk (HD4.out.below hb5)
  have HB5 := Aside0.mk (below_then HB4.out HB4.out.size hb5)
  have hcv := own_string (P := Try.prog) Try.underlying30 Try.underlying5 Try.underlying9 (Kd.own_of_R ho5)
  have q0 : w5.cell? ⟨D, 0, none⟩ = some (.slice (some ⟨gS, 0, none⟩) 2 2) := (blk_cell HD5.out.1 0).trans rfl
  have q1 : w5.cell? ⟨D, 1, none⟩ = some (.slice A3 0 cW3) := (blk_cell HD5.out.1 1).trans rfl
  clear ho5 hb5 HD4 HB4
  have eb : ((strOfNums (readW 0 [] [1, 1, 1, 0, 0, 0, 0, 0, 0, 0, 0, 0, 0, 0, 0, 0])).toList == ([1, 1, 1, 0, 0, 0, 0, 0, 0, 0, 0, 0, 0, 0, 0, 0] : List UInt8)) = true := by rw [ByteArray.toList_eq]; rfl
  have ep := beq_iff_eq.mp eb
  go_wp2
  go_ret
  exact ⟨rfl, HB5.out⟩
end Go.Proofs.Ytfmgealooebciaa.PAll
