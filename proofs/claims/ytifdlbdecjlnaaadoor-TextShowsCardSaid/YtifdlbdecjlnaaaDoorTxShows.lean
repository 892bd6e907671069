/- The law TextShows' code: it answers true. Conditions: those that each theorem states. -/
import Derived.Test.YtifdlbdecjlnaaaDoorTxRefShow
namespace Go.Proofs.YtifdlbdecjlnaaaDoor.PAll
open Go.RowKit Go.Proofs.YtifdlbdecjlnaaaDoorW.PrintWords Go.Proofs.YtifdlbdecjlnaaaDoorW.PrintLast Go.Proofs.YtifdlbdecjlnaaaDoorW.PrintMore
set_option linter.unusedVariables false
set_option linter.unusedSimpArgs false
theorem cells6s {w : World} {c : Nat} {v0 v1 v2 v3 v4 v5 : Value} (h : Aside0 (w.heap[c]? = some (.cells #[v0, v1, v2, v3, v4, v5] 24 (0, 0)))) :
    w.cell? ⟨c, 0, none⟩ = some v0 ∧ w.cell? ⟨c, 1, none⟩ = some v1 ∧ w.cell? ⟨c, 2, none⟩ = some v2 ∧ w.cell? ⟨c, 3, none⟩ = some v3 ∧ w.cell? ⟨c, 4, none⟩ = some v4 ∧ w.cell? ⟨c, 5, none⟩ = some v5 := by
  refine ⟨?_, ?_, ?_, ?_, ?_, ?_⟩
  all_goals (rw [cell_of_row _ c _ _ _ _ h.out]; rfl)
theorem words2_l (w : World) : Calls Tryd.prog 17 #[] w fun e w' => e = .returned (.slice (some ⟨w.heap.size, 0, none⟩) 8 8) ∧ wordsBlk w' w.heap.size ∧ Below w.heap.size w w' := by
  go_enter Tryd.func17, Tryd.ntmps17
  go_wp2
  go_ret
  refine ⟨rfl, ?_, (Below.refl _ _).alloc (Nat.le_refl _) _⟩
  exact (Array.getElem?_push_size (xs := w.heap))
theorem wordsBlk_new {w1 w2 : World} {g : Nat} (h : Aside0 (wordsBlk w1 g)) (hb : Below w1.heap.size w1 w2) : Aside0 (wordsBlk w2 g) := ⟨(hb.block g (blk_lt h.out)).trans h.out⟩
set_option maxHeartbeats 800000 in
set_option maxRecDepth 100000 in
theorem shows_w (a0 a1 k n m : Int) (tl : List UInt8) (w : World) (hT : Tabs w) (hP : Pow w) : Calls Tryd.prog 6 #[.agg #[.int .i64 a0, .int .i64 a1, .int .i64 k, .int .i64 n, .int .i64 m, .string (Str tl)]] w fun e w' => e = .returned (.bool true) ∧ Below w.heap.size w w' := by
  have cA := awake_w
  have hsz : (Str tl).size = tl.length := Str_size tl
  have hP0 := Aside0.mk hP
  obtain ⟨hB0, hT0, G0⟩ := cmd_new #[.int .i64 a0, .int .i64 a1, .int .i64 k, .int .i64 n, .int .i64 m, .string (Str tl)] (Aside0.mk (Below.refl w.heap.size w)) (Aside0.mk hT)
  clear hT hP
  obtain ⟨m', hm⟩ : ∃ m', tl.length = m' := ⟨_, rfl⟩
  rw [hm] at hsz
  obtain ⟨⟨s, x⟩, hS⟩ : ∃ v, showR k n m tl = v := ⟨_, rfl⟩
  have hev := fun htl => refshow_ev a0 a1 k n m tl htl
  rw [hS] at hev
  obtain ⟨tB, htB⟩ : ∃ b, Str tl = b := ⟨_, rfl⟩
  rw [htB] at hsz G0 hev hB0 hT0
  rw [htB]
  go_enter Tryd.func6, Tryd.ntmps6
  go_wp2_with fail
  generalize (w.alloc (.cells #[.int .i64 a0, .int .i64 a1, .int .i64 k, .int .i64 n, .int .i64 m, .string tB] 24)) = w0 at hB0 hT0 G0 ⊢
  obtain ⟨g, hg⟩ : ∃ g, w.heap.size = g := ⟨_, rfl⟩
  rw [hg] at G0 ⊢
  have hg := Aside0.mk hg
  refine (cA _ hT0.out).mono ?_
  rintro e w1 ⟨rfl, hb⟩
  obtain ⟨hB1, hT1⟩ := step_new hB0 hT0 hb
  have G1 := blk_new G0 hb
  clear hb hB0 hT0 G0 cA
  obtain ⟨z0, z1, z2, z3, z4, z5⟩ := cells6s G1
  by_cases h5 : m' > 500
  · have g1 : decide ((m' : Int) > 500) = true := decide_eq_true (by omega)
    go_wp2
    go_ret
    exact ⟨rfl, hB1.out⟩
  have g1 : decide ((m' : Int) > 500) = false := decide_eq_false (by omega)
  have htl : tl.length < 1000000 := by omega
  have cS := show_w a0 a1 k n m tl htl w1 hT1.out (hP0.out.below hB1.out) _ hS
  rw [htB] at cS
  obtain ⟨q, hq⟩ := (hev htl).rounds
  have cR := fun w => colloquyref14_Show.calls q _ _ _ _ _ _ _ _ w hq
  have cA := words_l
  have cB := words2_l
  simp only at cS cR
  generalize Str s = sB at cS cR
  clear hev hq hS htB htl h5 hm
  go_wp2_with (first | (go_at_call 14; (with_reducible refine cS.mono ?_); rintro e w2 ⟨rfl, hb⟩; obtain ⟨hB2, hT2⟩ := step_new hB1 hT1 hb; have G2 := blk_new G1 hb; obtain ⟨y0, y1, y2, y3, y4, y5⟩ := cells6s G2; clear hb cS) | (go_at_call 15; (with_reducible refine (cR _).mono ?_); rintro e w3 ⟨rfl, hb⟩; obtain ⟨hB3, hT3⟩ := step_new hB2 hT2 hb; clear hb cR) | (go_at_call 16; (with_reducible refine (cA _).mono ?_); rintro e w4 ⟨rfl, A4', hb⟩; have A4 := Aside0.mk A4'; clear A4'; obtain ⟨hB4, hT4⟩ := step_new hB3 hT3 hb; clear hb cA) | (go_at_call 17; (with_reducible refine (cB _).mono ?_); rintro e w5 ⟨rfl, B5', hb⟩; have B5 := Aside0.mk B5'; clear B5'; have A5 := wordsBlk_new A4 hb; obtain ⟨hB5, hT5⟩ := step_new hB4 hT4 hb; clear hb cB))
  generalize w3.heap.size = ga at A5 ⊢
  generalize w4.heap.size = gb at B5 ⊢
  clear hT1 hT2 hT3 hT4 hT5 hB1 hB2 hB3 hB4 G1 G2 z0 z1 z2 z3 z4 z5 y0 y1 y2 y3 y4 y5
  go_loopg [10] 8 (fun gk v w' => ∃ j : Nat, v = .int .i64 (j : Int) ∧ Aside0 (j + gk = 8) ∧ Aside0 (wordsBlk w' ga) ∧ Aside0 (wordsBlk w' gb) ∧ Aside0 (Below w.heap.size w w'))
  case atStart => exact ⟨0, rfl, ⟨rfl⟩, A5, B5, hB5⟩
  case round =>
    clear A5 B5 hB5
    obtain ⟨j, rfl, hj, A, B, hB⟩ := hrel
    cases gk with
    | zero =>
      have hj8 : j = 8 := by have := hj.out; omega
      subst hj8
      have b1 : decide (((8 : Nat) : Int) < 8) = false := by decide
      go_wp2
      go_ret
      exact ⟨by first | rfl | (simp; done), by first | exact hB.out | (rw [← hg.out]; exact hB.out)⟩
    | succ q =>
      have b1 : decide ((j : Int) < 8) = true := decide_eq_true (by have := hj.out; omega)
      have b2 : decide (0 ≤ (j : Int)) = true := decide_eq_true (by omega)
      have c1 := words_cell A.out j (by have := hj.out; omega)
      have c2 := words_cell B.out j (by have := hj.out; omega)
      have hjq := Aside0.mk (show (j + 1) + q = 8 by have := hj.out; omega)
      have hw : wrap64 ((j : Int) + 1) = ((j + 1 : Nat) : Int) := w64 (by have := hj.out; omega) (by have := hj.out; omega)
      have p1 : (0 ≤ (j : Int)) = True := eq_true (by omega)
      have p2 : ((j : Int) < 8) = True := eq_true (by have := hj.out; omega)
      have p3 : (j < 8) = True := eq_true (by have := hj.out; omega)
      go_wp2
      go_quiet (fail)
      go_wp2
      go_roundg q
      case measure => omega
      case rel => exact ⟨j + 1, by first | rfl | rw [← hw], hjq, A, B, ⟨by repeat (first | exact hB.out | apply pw_below_drewN)⟩⟩
end Go.Proofs.YtifdlbdecjlnaaaDoor.PAll
