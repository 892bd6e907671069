/- DiskOwn over the disk in memory. -/
import Derived.Test.YtfmgealooebciaaDiskSmall
namespace Go.Proofs.Ytfmgealooebciaa.PAll
open Go.RowKit Go.Proofs.YtfmgealooebciaaW.PrintWords Go.Proofs.YtfmgealooebciaaW.PrintLast Go.Proofs.YtfmgealooebciaaW.PrintMore
set_option linter.unusedVariables false
set_option linter.unusedSimpArgs false
theorem zero1 : ∀ s ∈ List.replicate 1 zeroS, s.length = 16 := by decide
set_option maxHeartbeats 2000000 in
set_option maxRecDepth 100000 in
theorem own_other (A0 : Option Addr) (c0 n : Nat) (a1 : Int) (w : World) (hl : ((n : Int) != 16) = true) : Calls Try.prog 8 #[.slice A0 n c0, .int .u8 a1] w fun x w' => x = .returned (.bool true) ∧ Below w.heap.size w w' := by
  go_enter Try.func8, Try.ntmps8
  go_wp2_with fail
  refine (awake_walk w).mono ?_
  rintro x w1 ⟨rfl, hb1⟩
  go_wp2_with fail
  refine (new_walk 1 1 1 w1 rfl rfl (by decide)).mono ?_
  rintro x w2 ⟨D, gS, rfl, hd2, hb2⟩
  have HB2 := Aside0.mk (below_then hb1 hb1.size hb2)
  clear hd2 hb1 hb2
  go_wp2
  go_ret
  exact ⟨rfl, HB2.out⟩
set_option maxHeartbeats 4000000 in
set_option maxRecDepth 100000 in
theorem own_16 (A0 : Option Addr) (c0 : Nat) (x0 x1 x2 x3 x4 x5 x6 x7 x8 x9 x10 x11 x12 x13 x14 x15 a1 : Int) (w : World) (hr0 : Kd.C (Kd.int .u8) w A0 16 [x0, x1, x2, x3, x4, x5, x6, x7, x8, x9, x10, x11, x12, x13, x14, x15]) (hc0 : 16 ≤ c0) : Calls Try.prog 8 #[.slice A0 16 c0, .int .u8 a1] w fun x w' => x = .returned (.bool true) ∧ Below w.heap.size w w' := by
  have HR0 := Aside0.mk hr0
  clear hr0
  go_enter Try.func8, Try.ntmps8
  go_wp2_with fail
  refine (awake_walk w).mono ?_
  rintro x w1 ⟨rfl, hb1⟩
  go_wp2_with fail
  refine (new_walk 1 1 1 w1 rfl rfl (by decide)).mono ?_
  rintro x w2 ⟨D, gS, rfl, hd2, hb2⟩
  have HD2 := Aside0.mk hd2
  have HB2 := Aside0.mk (below_then hb1 hb1.size hb2)
  have HBW := Aside0.mk hb1.size
  have HB2' := Aside0.mk hb2
  clear hd2 hb1 hb2
  go_wp2_with ((with_reducible refine gate_builtin (b := .append) (xs := #[.const (.slice none 0 0), .tmp 32]) rfl ?_); at_builtin; refine Kd.R_append_rows (Kd.int .u8) (w0 := w2) w2.heap.size rfl (.const (.slice none 0 0)) (.tmp 32) 30 5 (.int .u8 0) 1 rfl Try.underlying30 info5 rfl (by decide) (by omega) (.slice none 0 0) [] [x0, x1, x2, x3, x4, x5, x6, x7, x8, x9, x10, x11, x12, x13, x14, x15] A0 16 c0 (fun _ => True) (fun _ => False) rfl rfl (Kd.R_nil _ _ _ _ _) (Kd.C_below HR0.out HB2.out) (fun _ _ h => h) (fun _ h => h.elim) (fun _ _ => trivial) (Below.refl _ _) ?aS ?aL ?_; (case aS => simp); (case aL => simp); intro v1 w3 ho hb1 hg hat; have HO3 := Aside0.mk ho; have HB3 := Aside0.mk hb1; clear ho hb1 hg hat)
  obtain ⟨g3, cap3, cur3, e3, hg3, hh3, hs3⟩ := own5 HO3.out (by simp)
  have e3' : v1 = .slice (some ⟨g3, 0, none⟩) 16 cap3 := e3
  subst e3'
  have HH3 := Aside0.mk hh3
  have HS3 := Aside0.mk (show 16 ≤ cur3.size from hs3)
  have HG3 := Aside0.mk hg3
  have HGB := Aside0.mk (show w.heap.size ≤ g3 from Nat.le_trans HB2.out.size hg3)
  have HL3 := Aside0.mk (show 16 ≤ cap3 from (Kd.R_reads' HO3.out).2.1)
  have HC3 := Aside0.mk (C_cells (Kd.R_reads' HO3.out).2.2)
  have HD3 := Aside0.mk (HD2.out.below HB3.out)
  have HB3w := Aside0.mk (below_then HB2.out HB2.out.size HB3.out)
  have HBS := Aside0.mk (show w.heap.size ≤ w3.heap.size from HB3w.out.size)
  have HDD := Aside0.mk (show w.heap.size ≤ D ∧ w.heap.size ≤ gS from ⟨Nat.le_trans HBW.out HD2.out.2.1, Nat.le_trans HBW.out HD2.out.2.2.1⟩)
  clear e3 hh3 hs3 hg3 HO3 HB2 HB2' HD2 HB3
  refine (write_yes w1.heap.size D gS 0 none (List.replicate 1 zeroS) [] 0 x0 x1 x2 x3 x4 x5 x6 x7 x8 x9 x10 x11 x12 x13 x14 x15 ⟨g3, 0, none⟩ cap3 w3 HD3.out rfl rfl (by decide) HL3.out HC3.out).mono ?_
  rintro x w4 ⟨rfl, A4, cW4, hd4, ht4, hA4⟩
  have HG4 := Aside0.mk (ht4.blk5 HD3.out HH3.out)
  have HB4 := Aside0.mk (ht4.bel HB3w.out HBS.out HDD.out.1 HDD.out.2 (fun a ha => by cases ha))
  have HD4 := Aside0.mk hd4
  have HW1 := Aside0.mk (show w.heap.size ≤ w1.heap.size from HBW.out)
  clear hd4 ht4 hA4
  obtain ⟨u4, q4⟩ := blk5_cell HG4.out (j := 0) (by have := HS3.out; omega)
  have f4 := blk_frozen HG4.out 0
  go_wp2_with fail
  refine (read_yes w1.heap.size D gS cW4 A4 (List.replicate 1 zeroS) [(0, [x0, x1, x2, x3, x4, x5, x6, x7, x8, x9, x10, x11, x12, x13, x14, x15])] 0 zeroS _ (HD4.out.far5 HG4.out 0 (.int .u8 a1)) rfl rfl rfl rfl (by simp) (by simp)).mono ?_
  rintro x w5 ⟨v5, rfl, ho5, hb5⟩
  have ho5' : Kd.R (Kd.int .u8) 5 w5 _ (fun _ => True) v5 [x0, x1, x2, x3, x4, x5, x6, x7, x8, x9, x10, x11, x12, x13, x14, x15] := ho5
  obtain ⟨g5, cap5, cur5, e5, hg5, hh5, hs5⟩ := own5 ho5' (by simp)
  have e5' : v5 = .slice (some ⟨g5, 0, none⟩) 16 cap5 := e5
  subst e5'
  have HB4s := Aside0.mk (below_set (j := 0) (v := .int .u8 a1) HB4.out HGB.out)
  have HB5 := Aside0.mk (below_then HB4s.out HB4s.out.size hb5)
  have HD5 := Aside0.mk ((HD4.out.far5 HG4.out 0 (.int .u8 a1)).below hb5)
  have HG5 := Aside0.mk hh5
  have HGB5 := Aside0.mk (show w.heap.size ≤ g5 from Nat.le_trans HB4s.out.size hg5)
  obtain ⟨u5, q5⟩ := blk5_cell hh5 (j := 1) (Nat.lt_of_lt_of_le (by simp) hs5)
  have f5 := blk_frozen hh5 1
  clear ho5 ho5' hb5 e5 hg5 hh5 hs5 q4 f4 HD4 HB4 HB4s HG4
  go_wp2_with fail
  refine (sync_walk w1.heap.size D gS cW4 A4 (List.replicate 1 zeroS) [(0, [x0, x1, x2, x3, x4, x5, x6, x7, x8, x9, x10, x11, x12, x13, x14, x15])] _ (HD5.out.far5 HG5.out 1 (.int .u8 a1)) (by simp) (by simp)).mono ?_
  rintro x w6 ⟨rfl, hd6, ht6⟩
  have HD6 := Aside0.mk (show DiskAt w1.heap.size D gS A4 cW4 [[x0, x1, x2, x3, x4, x5, x6, x7, x8, x9, x10, x11, x12, x13, x14, x15]] [] w6 from hd6)
  have HB5s := Aside0.mk (below_set (j := 1) (v := .int .u8 a1) HB5.out HGB5.out)
  have HB6 := Aside0.mk (ht6.bel HB5s.out HB5s.out.size HDD.out.1 HDD.out.2 (fun a ha => Nat.le_trans HW1.out (HD6.out.base.2.2.1 a ha)))
  clear hd6 ht6 q5 f5 HD5 HB5 HB5s HG5
  go_wp2_with fail
  refine (read_yes w1.heap.size D gS cW4 A4 [[x0, x1, x2, x3, x4, x5, x6, x7, x8, x9, x10, x11, x12, x13, x14, x15]] [] 0 [x0, x1, x2, x3, x4, x5, x6, x7, x8, x9, x10, x11, x12, x13, x14, x15] _ HD6.out rfl rfl rfl rfl (by simp) (by simp)).mono ?_
  rintro x w7 ⟨v7, rfl, ho7, hb7⟩
  have ho7' : Kd.R (Kd.int .u8) 5 w7 _ (fun _ => True) v7 [x0, x1, x2, x3, x4, x5, x6, x7, x8, x9, x10, x11, x12, x13, x14, x15] := ho7
  obtain ⟨g7, cap7, cur7, e7, hg7, hh7, hs7⟩ := own5 ho7' (by simp)
  have e7' : v7 = .slice (some ⟨g7, 0, none⟩) 16 cap7 := e7
  subst e7'
  have HB7 := Aside0.mk (below_then HB6.out HB6.out.size hb7)
  have HD7 := Aside0.mk (HD6.out.below hb7)
  have HG7 := Aside0.mk hh7
  have HGB7 := Aside0.mk (show w.heap.size ≤ g7 from Nat.le_trans HB6.out.size hg7)
  obtain ⟨u7, q7⟩ := blk5_cell hh7 (j := 2) (Nat.lt_of_lt_of_le (by simp) hs7)
  have f7 := blk_frozen hh7 2
  clear ho7 ho7' hb7 e7 hg7 hh7 hs7 HD6 HB6
  go_wp2_with fail
  refine (read_yes w1.heap.size D gS cW4 A4 [[x0, x1, x2, x3, x4, x5, x6, x7, x8, x9, x10, x11, x12, x13, x14, x15]] [] 0 [x0, x1, x2, x3, x4, x5, x6, x7, x8, x9, x10, x11, x12, x13, x14, x15] _ (HD7.out.far5 HG7.out 2 (.int .u8 a1)) rfl rfl rfl rfl (by simp) (by simp)).mono ?_
  rintro x w8 ⟨v8, rfl, ho8, hb8⟩
  have ho8' : Kd.R (Kd.int .u8) 5 w8 _ (fun _ => True) v8 [x0, x1, x2, x3, x4, x5, x6, x7, x8, x9, x10, x11, x12, x13, x14, x15] := ho8
  have HB7s := Aside0.mk (below_set (j := 2) (v := .int .u8 a1) HB7.out HGB7.out)
  have HB8 := Aside0.mk (below_then HB7s.out HB7s.out.size hb8)
  have hcv := own_string (P := Try.prog) Try.underlying30 Try.underlying5 Try.underlying9 (Kd.own_of_R ho8')
  have hcb := Kd.C_string (P := Try.prog) Try.underlying30 Try.underlying5 Try.underlying9 (c := c0) (Kd.C_below HR0.out HB8.out)
  have eb : ((strOfNums [x0, x1, x2, x3, x4, x5, x6, x7, x8, x9, x10, x11, x12, x13, x14, x15]).toList == (strOfNums [x0, x1, x2, x3, x4, x5, x6, x7, x8, x9, x10, x11, x12, x13, x14, x15]).toList) = true := by simp
  clear ho8 ho8' hb8 q7 f7 HD7 HB7 HB7s HG7
  go_wp2
  go_ret
  exact ⟨rfl, HB8.out⟩
def colloquylaw19_DiskOwn.f (l0 : List Int) (a1 : Int) : Option Bool := some true
theorem colloquylaw19_DiskOwn.calls (A0 : Option Addr) (c0 : Nat) (l0 : List Int) (a1 : Int) (r : Bool) (w : World) (hr0 : Kd.C (Kd.int .u8) w A0 l0.length l0) (hc0 : l0.length ≤ c0) (h : colloquylaw19_DiskOwn.f l0 a1 = some r) :
    Calls Try.prog 8 #[.slice A0 l0.length c0, .int .u8 a1] w fun e w' => e = .returned (.bool r) ∧ Below w.heap.size w w' := by
  obtain rfl := Option.some.inj h
  by_cases c : l0.length = 16
  · obtain ⟨x0, x1, x2, x3, x4, x5, x6, x7, x8, x9, x10, x11, x12, x13, x14, x15, rfl⟩ := len16 c
    exact own_16 A0 c0 x0 x1 x2 x3 x4 x5 x6 x7 x8 x9 x10 x11 x12 x13 x14 x15 a1 w hr0 hc0
  · exact own_other A0 c0 l0.length a1 w (bne_iff_ne.mpr (by omega))
end Go.Proofs.Ytfmgealooebciaa.PAll
