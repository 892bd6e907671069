/- The law TextBack's code: it answers true. Conditions: those that each theorem states. -/
import Derived.Test.YtifdlbdecjlnaaaDoorTxLineB
import Derived.Test.YtifdlbdecjlnaaaDoorTxBare
namespace Go.Proofs.YtifdlbdecjlnaaaDoor.PAll
open Go.RowKit Go.Proofs.YtifdlbdecjlnaaaDoorW.PrintWords Go.Proofs.YtifdlbdecjlnaaaDoorW.PrintLast Go.Proofs.YtifdlbdecjlnaaaDoorW.PrintMore
set_option linter.unusedVariables false
set_option linter.unusedSimpArgs false
theorem cells6 {w : World} {c : Nat} {v0 v1 v2 v3 v4 v5 : Value} (h : Aside0 (w.heap[c]? = some (.cells #[v0, v1, v2, v3, v4, v5] 24 (0, 0)))) :
    w.cell? ⟨c, 0, none⟩ = some v0 ∧ w.cell? ⟨c, 1, none⟩ = some v1 ∧ w.cell? ⟨c, 2, none⟩ = some v2 ∧ w.cell? ⟨c, 3, none⟩ = some v3 ∧ w.cell? ⟨c, 4, none⟩ = some v4 ∧ w.cell? ⟨c, 5, none⟩ = some v5 := by
  refine ⟨?_, ?_, ?_, ?_, ?_, ?_⟩
  all_goals (rw [cell_of_row _ c _ _ _ _ h.out]; rfl)
theorem show_len {k n m : Int} {t s : List UInt8} {x : Int} (h : showR k n m t = (s, x)) : s.length < 1000000 := by
  unfold showR at h
  split at h
  · cases h; decide
  rename_i c1
  split at h
  · cases h; decide
  rename_i c2
  split at h
  · cases h; decide
  rename_i c3
  have hs := congrArg Prod.fst h
  change _ = s at hs
  rw [← hs]
  have q1 := dec_len10 n.toNat (by omega)
  have q2 := wordAt_len k.toNat (by omega)
  by_cases h5 : 5 ≤ k
  · have q3 := dec_len10 m.toNat (by omega)
    by_cases h45 : k = 4 ∨ k = 5
    · have ht : t.length ≤ 64 := by
        apply may_len'
        cases hM : mayS t
        · exact absurd ⟨h45, hM⟩ c3
        · rfl
      rw [if_pos h5, if_pos h45]
      simp [Lib.join, List.intercalate]
      omega
    · rw [if_pos h5, if_neg h45]
      simp [Lib.join, List.intercalate]
      omega
  · by_cases h45 : k = 4 ∨ k = 5
    · have ht : t.length ≤ 64 := by
        apply may_len'
        cases hM : mayS t
        · exact absurd ⟨h45, hM⟩ c3
        · rfl
      rw [if_neg h5, if_pos h45]
      simp [Lib.join, List.intercalate]
      omega
    · rw [if_neg h5, if_neg h45]
      simp [Lib.join, List.intercalate]
      omega
set_option maxHeartbeats 400000 in
set_option maxRecDepth 100000 in
theorem back_w (a0 a1 k n m : Int) (tl : List UInt8) (w : World) (hT : Tabs w) (hP : Pow w) : Calls Tryd.prog 7 #[.agg #[.int .i64 a0, .int .i64 a1, .int .i64 k, .int .i64 n, .int .i64 m, .string (Str tl)]] w fun e w' => e = .returned (.bool true) ∧ Below w.heap.size w w' := by
  have cA := awake_w
  have hsz : (Str tl).size = tl.length := Str_size tl
  have hP0 := Aside0.mk hP
  obtain ⟨hB0, hT0, G0⟩ := cmd_new #[.int .i64 a0, .int .i64 a1, .int .i64 k, .int .i64 n, .int .i64 m, .string (Str tl)] (Aside0.mk (Below.refl w.heap.size w)) (Aside0.mk hT)
  clear hT hP
  obtain ⟨tB, htB⟩ : ∃ s, Str tl = s := ⟨_, rfl⟩
  rw [htB] at hsz hB0 hT0 G0
  rw [htB]
  obtain ⟨m', hm⟩ : ∃ q, tl.length = q := ⟨_, rfl⟩
  rw [hm] at hsz
  obtain ⟨⟨s, x⟩, hS⟩ : ∃ v, showR k n m tl = v := ⟨_, rfl⟩
  go_enter Tryd.func7, Tryd.ntmps7
  go_wp2_with fail
  generalize (w.alloc (.cells #[.int .i64 a0, .int .i64 a1, .int .i64 k, .int .i64 n, .int .i64 m, .string tB] 24)) = w0 at hB0 hT0 G0 ⊢
  obtain ⟨g, hg⟩ : ∃ g, w.heap.size = g := ⟨_, rfl⟩
  rw [hg] at G0 ⊢
  have hg := Aside0.mk hg
  refine (cA _ hT0.out).mono ?_
  rintro e w1 ⟨rfl, hb⟩
  obtain ⟨hB1, hT1⟩ := step_new hB0 hT0 hb
  have G1 := blk_new G0 hb
  clear hb hB0 hT0 G0 cA
  obtain ⟨z0, z1, z2, z3, z4, z5⟩ := cells6 G1
  by_cases h5 : m' > 500
  · have g1 : decide ((m' : Int) > 500) = true := decide_eq_true (by omega)
    go_wp2
    go_ret
    exact ⟨rfl, hB1.out⟩
  have g1 : decide ((m' : Int) > 500) = false := decide_eq_false (by omega)
  have htl : tl.length < 1000000 := by omega
  have cS := show_w a0 a1 k n m tl htl w1 hT1.out (hP0.out.below hB1.out) _ hS
  rw [htB] at cS
  by_cases hx : x = 0
  · subst hx
    obtain ⟨hk, hbk⟩ := back_of hS
    have hR : parseR s = ((k, n, if 5 ≤ k then m else 0, if k = 4 ∨ k = 5 then tl else []), 0) := by unfold parseR; rw [hbk]
    have cP := fun w hT => parse_c s (show_len hS) w hT _ _ _ _ _ hR
    have cB := fun w => bare_w a0 a1 k n m tB _ _ (show decide (k = 5 ∨ k = 6 ∨ k = 7) = decide (5 ≤ k) from by
      by_cases q : 5 ≤ k
      · rw [decide_eq_true q]; exact decide_eq_true (by omega)
      · rw [decide_eq_false q]; exact decide_eq_false (by omega)) rfl w
    have e1 : (if decide (5 ≤ k) = true then m else 0) = (if 5 ≤ k then m else 0) := by simp
    have e2 : (if decide (k = 4 ∨ k = 5) = true then tB else ⟨#[]⟩) = Str (if k = 4 ∨ k = 5 then tl else []) := by
      by_cases q : k = 4 ∨ k = 5
      · rw [if_pos (decide_eq_true q), if_pos q, htB]
      · rw [if_neg (by rw [decide_eq_false q]; decide), if_neg q]; rfl
    rw [e1, e2] at cB
    generalize (if 5 ≤ k then m else 0) = m2 at cP cB
    generalize Str (if k = 4 ∨ k = 5 then tl else []) = tB2 at cP cB
    unfold cmdV at cP cB
    generalize Str s = sB at cP cS
    clear e1 e2 hR hbk hk hS htB htl h5 hm
    go_wp2_with (first | (go_at_call 14; refine cS.mono ?_; rintro e w2 ⟨rfl, hb⟩; obtain ⟨hB2, hT2⟩ := step_new hB1 hT1 hb; have G2 := blk_new G1 hb; clear hb cS) | (go_at_call 10; refine (cP _ hT2.out).mono ?_; rintro e w3 ⟨rfl, hb⟩; obtain ⟨hB3, hT3⟩ := step_new hB2 hT2 hb; have G3 := blk_new G2 hb; clear hb cP))
    obtain ⟨hB4, hT4, H4⟩ := cmd_new #[.int .i64 0, .int .i64 0, .int .i64 k, .int .i64 n, .int .i64 m2, .string tB2] hB3 hT3
    have G4 := blk_new G3 ((Below.refl w3.heap.size w3).alloc (Nat.le_refl _) (.cells #[.int .i64 0, .int .i64 0, .int .i64 k, .int .i64 n, .int .i64 m2, .string tB2] 24))
    generalize (w3.alloc (.cells #[.int .i64 0, .int .i64 0, .int .i64 k, .int .i64 n, .int .i64 m2, .string tB2] 24)) = w4 at hB4 hT4 H4 G4 ⊢
    generalize w3.heap.size = g2 at H4 ⊢
    obtain ⟨a0', a1', a2', a3', a4', a5'⟩ := cells6 G4
    obtain ⟨b0', b1', b2', b3', b4', b5'⟩ := cells6 H4
    clear z0 z1 z2 z3 z4 z5 hB1 hB2 hB3 hT1 hT2 hT3 G1 G2 G3
    go_region_with (go_at_call 18; refine (cB _).mono ?_; rintro e w5 ⟨rfl, hb⟩; have hb5 : Below w4.heap.size w4 w5 := ⟨hb.os, hb.tape, hb.output, hb.size, hb.block⟩; have hB5 := (step_new hB4 hT4 hb5).1; have G5 := blk_new G4 hb5; have H5 := blk_new H4 hb5; obtain ⟨y0, y1, y2, y3, y4, y5⟩ := cells6 G5; obtain ⟨u0, u1, u2, u3, u4, u5⟩ := cells6 H5; clear hb hb5)
    all_goals go_wp2
    all_goals go_ret
    all_goals exact ⟨by first | rfl | (simp; done), hB5.out⟩
  · have hs := back_err hS hx
    subst hs
    rw [show Str [] = (⟨#[]⟩ : ByteArray) from rfl] at cS
    have x1 : (x == 0) = false := beq_eq_false_iff_ne.mpr hx
    have x2 : (x != 0) = true := bne_iff_ne.mpr hx
    clear hS htB htl h5 hm
    go_wp2_with (first | (go_at_call 14; refine cS.mono ?_; rintro e w2 ⟨rfl, hb⟩; obtain ⟨hB2, hT2⟩ := step_new hB1 hT1 hb; clear hb cS))
    go_ret
    exact ⟨by first | rfl | (simp; done), hB2.out⟩
end Go.Proofs.YtifdlbdecjlnaaaDoor.PAll
