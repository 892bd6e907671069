/- The reference's disk: Read. -/
import Derived.Test.YtfmgealooebciaaRefNew
namespace Go.Proofs.Ytfmgealooebciaa.PAll
open Go.RowKit Go.Proofs.YtfmgealooebciaaW.PrintWords Go.Proofs.YtfmgealooebciaaW.PrintLast Go.Proofs.YtfmgealooebciaaW.PrintMore
set_option linter.unusedVariables false
set_option linter.unusedSimpArgs false
/-- A write that waits, in memory. -/
theorem at_kw {w : World} {g n : Nat} {xs : List (Int × List Int)} (h : Kd.C (Kd.pair (Kd.int .i64) (Kd.slice 5 (Kd.int .u8))) w (some ⟨g, 0, none⟩) n xs) (j : Nat) (p : Int × List Int) (hp : xs[j]? = some p) :
    ∃ A0 c0, w.cell? ⟨g, j * 2, none⟩ = some (.int .i64 p.1) ∧ w.cell? ⟨g, j * 2 + 1, none⟩ = some (.slice A0 p.2.length c0) ∧ p.2.length ≤ c0 ∧ (Kd.int .u8).C w A0 p.2.length p.2 := by
  have hlt : j < xs.length := (List.getElem?_eq_some_iff.1 hp).1
  have hn := h.1
  obtain ⟨ad, c, e, _, hK, hc⟩ := Kd.C_get h ((0 : Int), ([] : List Int)) (j : Int) (by omega) (by omega)
  cases e
  rw [Int.toNat_natCast] at hK hc
  rw [List.getD_eq_getElem?_getD, hp, Option.getD_some] at hK
  obtain ⟨c0, c1, rfl, h0, A0, cc, rfl, hl, hC⟩ := hK
  have h0' : c0 = [.int .i64 p.1] := h0
  subst h0'
  have e0 := hc 0 _ rfl
  have e1 := hc 1 _ rfl
  have hsz : (Kd.pair (Kd.int .i64) (Kd.slice 5 (Kd.int .u8))).sz = 2 := rfl
  rw [hsz, add_plain] at e0 e1
  exact ⟨A0, cc, e0, e1, hl, hC⟩
theorem rw_block {base D : Nat} {vS vW : Value} {S : List (List Int)} {W : List (Int × List Int)} {w : World} (h : RefAt base D vS vW S W w) (hn : 0 < W.length) : ∃ g c, vW = .slice (some ⟨g, 0, none⟩) W.length c ∧ Kd.C (Kd.pair (Kd.int .i64) (Kd.slice 5 (Kd.int .u8))) w (some ⟨g, 0, none⟩) W.length W := by
  obtain ⟨inner, hown⟩ := Kd.R_own h.rw
  obtain ⟨g, c, rfl⟩ := own_some hown hn
  exact ⟨g, c, rfl, (Kd.R_reads' h.rw).2.2⟩
theorem rs_block {base D : Nat} {vS vW : Value} {S : List (List Int)} {W : List (Int × List Int)} {w : World} (h : RefAt base D vS vW S W w) (hn : 0 < S.length) : ∃ g c, vS = .slice (some ⟨g, 0, none⟩) S.length c ∧ Kd.C (Kd.slice 5 (Kd.int .u8)) w (some ⟨g, 0, none⟩) S.length S := by
  obtain ⟨inner, hown⟩ := Kd.R_own h.rs
  obtain ⟨g, c, rfl⟩ := own_some hown hn
  exact ⟨g, c, rfl, (Kd.R_reads' h.rs).2.2⟩
theorem rw_slice {base D : Nat} {vS vW : Value} {S : List (List Int)} {W : List (Int × List Int)} {w : World} (h : RefAt base D vS vW S W w) : ∃ A c, vW = .slice A W.length c := Kd.R_slice h.rw
set_option maxHeartbeats 1000000 in
set_option maxRecDepth 100000 in
theorem refread_no (base D : Nat) (AS : Option Addr) (cS : Nat) (vW : Value) (S : List (List Int)) (W : List (Int × List Int)) (i : Int) (w : World) (h : RefAt base D (.slice AS S.length cS) vW S W w)
    (hi : (decide (i < 0) = true) ∨ (decide (i < 0) = false ∧ decide (i ≥ (S.length : Int)) = true)) :
    Calls Try.prog 20 #[.pointer (some ⟨D, 0, none⟩), .int .i64 i] w fun x w' => x = .returned (.tuple #[.slice none 0 0, .int .i64 1]) ∧ w' = w := by
  have q0 : w.cell? ⟨D, 0, none⟩ = some (.slice AS S.length cS) := (blk_cell h.blk 0).trans rfl
  clear h
  rcases hi with hi | ⟨hi, hj⟩
  all_goals
    go_enter Try.func20, Try.ntmps20
    go_wp2
    go_ret2
    exact ⟨rfl, rfl⟩
set_option maxHeartbeats 2000000 in
set_option maxRecDepth 100000 in
theorem refread_yes (base D g cS : Nat) (vW : Value) (S : List (List Int)) (W : List (Int × List Int)) (i : Int) (s : List Int) (w : World) (h : RefAt base D (.slice (some ⟨g, 0, none⟩) S.length cS) vW S W w) (h0 : 0 ≤ i) (h1 : i < (S.length : Int)) (hs : S[i.toNat]? = some s) (hl : s.length = 16) (hn : W.length < 1099511627776) (hr : ∀ p ∈ W, p.2.length = 16) :
    Calls Try.prog 20 #[.pointer (some ⟨D, 0, none⟩), .int .i64 i] w fun x w' => ∃ v, x = .returned (.tuple #[v, .int .i64 0]) ∧ Kd.R (Kd.int .u8) 5 w' w.heap.size (fun _ => True) v (readW i W s) ∧ Below w.heap.size w w' := by
  obtain ⟨AW, cW, eW⟩ := rw_slice h
  subst eW
  have q0 : w.cell? ⟨D, 0, none⟩ = some (.slice (some ⟨g, 0, none⟩) S.length cS) := (blk_cell h.blk 0).trans rfl
  have q1 : w.cell? ⟨D, 1, none⟩ = some (.slice AW W.length cW) := (blk_cell h.blk 1).trans rfl
  obtain ⟨ad, A0, c0, e0, hx0, hl0, hi0⟩ := at_L2 (Kd.R_reads' h.rs).2.2 i h0 h1
  cases e0
  have es : rd_L2 S i = s := by unfold rd_L2; rw [List.getD_eq_getElem?_getD, hs, Option.getD_some]
  rw [es, hl] at hx0 hl0 hi0
  rw [add_plain] at hx0
  have H := Aside0.mk h
  have HR := Aside0.mk hr
  have HN := Aside0.mk hn
  have HSL := Aside0.mk hl
  have HC0 := Aside0.mk hi0
  have c0' : decide (i < 0) = false := decide_eq_false (by omega)
  have c1' : decide (i ≥ (S.length : Int)) = false := decide_eq_false (by omega)
  have p2 := eq_true h0
  have p3 := eq_true h1
  clear h hs hl hn hr es hl0 hi0
  go_enter Try.func20, Try.ntmps20
  go_wp2_with fail
  go_loopg [6, 7] W.length (fun kq v6 v7 w' => ∃ (j : Nat) (A6 : Option Addr) (c6 : Nat), v6 = .slice A6 16 c6 ∧ v7 = .int .i64 (j : Int) ∧ Aside0 (j + kq = W.length) ∧ Aside0 (Kd.C (Kd.int .u8) w A6 16 (readW i (W.take j) s)) ∧ w = w')
  case atStart => exact ⟨0, A0, c0, rfl, rfl, ⟨by omega⟩, ⟨HC0.out⟩, rfl⟩
  case round =>
    obtain ⟨j, A6, c6, rfl, rfl, HJ, HC6, rfl⟩ := hrel
    by_cases hlt : j < W.length
    · obtain ⟨p, hp⟩ : ∃ p, W[j]? = some p := ⟨_, List.getElem?_eq_getElem hlt⟩
      obtain ⟨gW, cW', eW, hCW⟩ := rw_block H.out (by omega)
      cases eW
      obtain ⟨Ap, cp, hy0, hy1, hlp, hCp⟩ := at_kw hCW j p hp
      have hp16 : p.2.length = 16 := HR.out p (List.mem_of_getElem? hp)
      rw [hp16] at hy1 hlp hCp
      have HCp := Aside0.mk hCp
      have HQ := Aside0.mk hp
      have HLT := Aside0.mk hlt
      have r1 : decide ((j : Int) < (W.length : Int)) = true := decide_eq_true (by omega)
      have r2 := eq_true (show 0 ≤ (j : Int) by omega)
      have r3 := eq_true (show (j : Int) < (W.length : Int) by omega)
      obtain ⟨k1, rfl⟩ : ∃ k1, gk = k1 + 1 := ⟨gk - 1, by have := HJ.out; omega⟩
      clear hCW hp hlt hp16 hlp hCp
      by_cases c : p.1 = i
      · have cb : (p.1 == i) = true := beq_iff_eq.mpr c
        have HE := Aside0.mk c
        clear c
        go_wp2
        go_roundg k1
        case measure => omega
        case rel =>
          refine ⟨j + 1, Ap, cp, rfl, ?_, ⟨by have := HJ.out; omega⟩, ⟨?_⟩, rfl⟩
          · exact congrArg (Value.int .i64) (widx (by have := HLT.out; have := HN.out; omega))
          · rw [readW_step i HQ.out s, if_pos HE.out]
            exact HCp.out
      · have cb : (p.1 == i) = false := beq_eq_false_iff_ne.mpr c
        have HE := Aside0.mk c
        clear c
        go_wp2
        go_roundg k1
        case measure => omega
        case rel =>
          refine ⟨j + 1, A6, c6, rfl, ?_, ⟨by have := HJ.out; omega⟩, ⟨?_⟩, rfl⟩
          · exact congrArg (Value.int .i64) (widx (by have := HLT.out; have := HN.out; omega))
          · rw [readW_step i HQ.out s, if_neg HE.out]
            exact HC6.out
    · obtain rfl : W.length = j := by have := HJ.out; omega
      have r0 : decide (W.length < W.length) = false := decide_eq_false (by omega)
      rw [List.take_length] at HC6
      clear hlt
      go_wp2_with ((with_reducible refine gate_builtin (b := .append) (xs := #[.const (.slice none 0 0), .tmp 53]) rfl ?_); at_builtin; refine Kd.R_append_rows (Kd.int .u8) (w0 := w) w.heap.size rfl (.const (.slice none 0 0)) (.tmp 53) 30 5 (.int .u8 0) 1 rfl Try.underlying30 info5 rfl (by decide) (by omega) (.slice none 0 0) [] (readW i W s) A6 16 c6 (fun _ => True) (fun _ => False) rfl rfl (Kd.R_nil _ _ _ _ _) HC6.out (fun _ _ h => h) (fun _ h => h.elim) (fun _ _ => trivial) (Below.refl _ _) (Nat.le_refl _) (by decide) ?_; intro v1 w1 ho hb1 hg hat; have HO1 := Aside0.mk ho; have HB1 := Aside0.mk hb1; clear ho hb1 hg hat)
      rw [List.nil_append] at HO1
      go_ret2
      exact ⟨_, rfl, HO1.out, HB1.out⟩
theorem refread_walk (base D m j : Nat) (AS : Option Addr) (cS : Nat) (vW : Value) (S : List (List Int)) (W : List (Int × List Int)) (i : Int) (w : World) (h : RefAt base D (.slice AS S.length cS) vW S W w) (hp : Parts m j S W) (hj : j < 1099511627776) :
    Calls Try.prog 20 #[.pointer (some ⟨D, 0, none⟩), .int .i64 i] w fun x w' => ∃ v, x = .returned (.tuple #[v, .int .i64 (readE S i)]) ∧ Kd.R (Kd.int .u8) 5 w' w.heap.size (fun _ => True) v (readL S W i) ∧ Below w.heap.size w w' := by
  by_cases c : 0 ≤ i ∧ i < (S.length : Int)
  · obtain ⟨c0, c1⟩ := c
    rw [readE, if_pos ⟨c0, c1⟩, readL, if_pos ⟨c0, c1⟩]
    have hlt : i.toNat < S.length := by omega
    have hs : S[i.toNat]? = some (S.getD i.toNat []) := by rw [List.getD_eq_getElem?_getD, List.getElem?_eq_getElem hlt, Option.getD_some]
    obtain ⟨g, c, e, _⟩ := rs_block h (by omega)
    cases e
    exact refread_yes base D g _ vW S W i _ w h c0 c1 hs (hp.s16 _ (List.mem_of_getElem? hs)) (Nat.lt_of_le_of_lt hp.few hj) (fun p hq => (hp.val p hq).2.2)
  · rw [readE, if_neg c, readL, if_neg c]
    refine (refread_no base D AS cS vW S W i w h ?_).mono ?_
    · by_cases c0 : i < 0
      · exact .inl (decide_eq_true c0)
      · exact .inr ⟨decide_eq_false c0, decide_eq_true (by
          by_cases c1 : i < (S.length : Int)
          · exact absurd ⟨by omega, c1⟩ c
          · omega)⟩
    · rintro x w' ⟨rfl, rfl⟩
      exact ⟨_, rfl, Kd.R_nil _ _ _ _ _, Below.refl _ _⟩
end Go.Proofs.Ytfmgealooebciaa.PAll
