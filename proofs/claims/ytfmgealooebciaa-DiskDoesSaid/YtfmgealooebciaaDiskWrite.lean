/- Write of the disk, in memory. -/
import Derived.Test.YtfmgealooebciaaDiskSync
namespace Go.Proofs.Ytfmgealooebciaa.PAll
open Go.RowKit Go.Proofs.YtfmgealooebciaaW.PrintWords Go.Proofs.YtfmgealooebciaaW.PrintLast Go.Proofs.YtfmgealooebciaaW.PrintMore
set_option linter.unusedVariables false
set_option linter.unusedSimpArgs false
section
variable {P : Program}
theorem run_loadVar_cells (w : World) (ad : Addr) (ty : TypeId) (cs : List Value) (d : TypeDesc) (hcs : ∀ j v, cs[j]? = some v → w.cell? (ad.add j) = some v)
    (hu : P.underlying ty = some d) (hd : (match d with | .struct _ | .array _ _ => true | _ => false) = true) (hi : (P.info? ty).map (·.size) = some cs.length) :
    (loadVar ty ad).run P w = .ok (.agg cs.toArray) w := by
  have hl : (loadCells ad cs.length).run P w = .ok cs.toArray w := run_loadCells_list (P := P) w ad cs hcs
  cases hq : P.info? ty with
  | none => simp [hq] at hi
  | some i =>
    have hs : i.size = cs.length := by simpa [hq] using hi
    have hagg : (isAgg ty).run P w = .ok true w := by
      unfold isAgg
      rw [Sem.run_bind, run_underlying hu w]
      cases d <;> simp_all
    simp [loadVar, Sem.run_bind, hagg, sizeOf, typeInfo, hq, hs, hl]
theorem wpStill_load_cells {ops : Array Oper} {rest : List Oper} {o : Oper} {a : Act} {w : World} {Q : Act → Prop} (hgd : o.guard = none) (ty : TypeId) (x : Operand) (ho : o.op = .load ty x)
    (p : Addr) (hx : a.eval x = .pointer (some p)) (cs : List Value) (d : TypeDesc) (hcs : ∀ j v, cs[j]? = some v → w.cell? (p.add j) = some v)
    (hu : P.underlying ty = some d) (hd : (match d with | .struct _ | .array _ _ => true | _ => false) = true) (hi : (P.info? ty).map (·.size) = some cs.length)
    (h : wpStill P ops w Q rest (a.put o.dst (.agg cs.toArray))) : wpStill P ops w Q (o :: rest) a := by
  refine wpStill_step (fun K hK => ?_)
  have hw : Region.wanted o (yielded ops a.tmps) = true := by simp [Region.wanted, hgd]
  have hrun : (execOp a.eval o).run P w = .ok (.value (.agg cs.toArray)) w := by
    unfold execOp
    simp only [ho, hx, Instr.loadAt, Instr.sureAddr, Sem.run_bind, Sem.run_pure, Result.andThen_ok, run_loadVar_cells w p ty cs d hcs hu hd hi]
  have hs : o.still P a w K := by
    unfold Oper.still
    rw [hrun, Oper.stillUpon_value]
    exact hK _ h
  rw [if_pos hw]
  exact hs
end
set_option maxHeartbeats 1000000 in
set_option maxRecDepth 100000 in
theorem write_no (base D gS cW : Nat) (A Ab : Option Addr) (S : List (List Int)) (W : List (Int × List Int)) (i : Int) (n cb : Nat) (w : World) (h : DiskAt base D gS A cW S W w)
    (hi : (decide (i ≥ 0) = false) ∨ (decide (i ≥ 0) = true ∧ decide (i < (S.length : Int)) = false) ∨ (decide (i ≥ 0) = true ∧ decide (i < (S.length : Int)) = true ∧ ((n : Int) != 16) = true)) :
    Calls Try.prog 13 #[.pointer (some ⟨D, 0, none⟩), .int .i64 i, .slice Ab n cb] w fun x w' => x = .returned (.int .i64 1) ∧ w' = w := by
  have q0 : w.cell? ⟨D, 0, none⟩ = some (.slice (some ⟨gS, 0, none⟩) S.length S.length) := (blk_cell h.1 0).trans rfl
  clear h
  rcases hi with hi | ⟨hi, hj⟩ | ⟨hi, hj, hk⟩
  all_goals
    go_enter Try.func13, Try.ntmps13
    go_wp2
    go_ret
    exact ⟨rfl, rfl⟩
theorem own_block {base cW : Nat} {A : Option Addr} {n : Nat} {xs : List Value} {w : World} (h : w.ownsRow base 56 17 (.slice A n cW) n xs) : ∀ k, (Value.slice A n cW).ownBlock = some k → A = some ⟨k, 0, none⟩ ∧ ∃ cur, w.heap[k]? = some (.cells cur 56 (0, 0)) := by
  intro k hk
  rcases h.2 with ⟨he, _⟩ | ⟨g, cap, cur, he, _, hh, _⟩
  · rw [he] at hk; simp [Value.ownBlock] at hk
  · have hA : A = some ⟨g, 0, none⟩ := by injection he
    subst hA
    simp only [Value.ownBlock, Option.some.injEq] at hk
    subst hk
    exact ⟨rfl, cur, hh⟩
theorem write_end {base D gS cW cap g : Nat} {A : Option Addr} {S : List (List Int)} {W : List (Int × List Int)} {p : Int × List Int} {w w5 : World} {o : Obj} (h : DiskAt base D gS A cW S W w)
    (h2 : w5.ownsRow base 56 17 (.slice (some ⟨g, 0, none⟩) (W.length + 1) cap) (W.length + 1) (W.flatMap wrC ++ wrC p)) (h3 : (w.drew.alloc o).grownBy w5 (Value.slice A W.length cW).ownBlock) (h4 : (Value.slice A W.length cW).ownBlock = some g ∨ g = w.heap.size + 1) :
    DiskAt base D gS (some ⟨g, 0, none⟩) cap S (W ++ [p]) (w5.setCell ⟨D, 1, none⟩ (.slice (some ⟨g, 0, none⟩) (W.length + 1) cap)) ∧ Touch D gS A w (w5.setCell ⟨D, 1, none⟩ (.slice (some ⟨g, 0, none⟩) (W.length + 1) cap)) ∧ (∀ a, (some ⟨g, 0, none⟩ : Option Addr) = some a → A = some ⟨g, 0, none⟩ ∨ w.heap.size ≤ a.block) := by
  obtain ⟨hD, hb, hbS, ⟨cS, hcS, hs1, hs2⟩, hO⟩ := h
  have hob := own_block hO
  have neD : ∀ k, (Value.slice A W.length cW).ownBlock = some k → k ≠ D := fun k hk => by
    obtain ⟨_, cur, hh⟩ := hob k hk
    exact blk_ne hh hD (by decide)
  have neS : ∀ k, (Value.slice A W.length cW).ownBlock = some k → k ≠ gS := fun k hk => by
    obtain ⟨_, cur, hh⟩ := hob k hk
    exact blk_ne hh hcS (by decide)
  have hneDS : gS ≠ D := (blk_ne hD hcS (by decide)).symm
  have hD5 := blk_grown (blk_alloc (blk_drew hD) o) h3 (fun e => neD D e.symm rfl)
  have hS5 := blk_grown (blk_alloc (blk_drew hcS) o) h3 (fun e => neS gS e.symm rfl)
  have hgD : g ≠ D := by
    rcases h4 with h4 | h4
    · exact neD g h4
    · have := blk_lt hD; omega
  have hsz : w.heap.size ≤ w5.heap.size := by
    have := h3.size
    simp at this
    omega
  refine ⟨⟨?_, hb, hbS, ⟨cS, blk_far hS5 (p := ⟨D, 1, none⟩) hneDS _, hs1, hs2⟩, ?_⟩, ⟨h3.os, h3.tape, h3.output, Nat.le_trans hsz (Nat.le_of_eq (by simp)), fun k hk n1 n2 n3 => ?_⟩, fun a ha => ?_⟩
  · rw [List.length_append, List.length_cons, List.length_nil]
    exact blk_put hD5 1 _ rfl
  · rw [List.length_append, List.length_cons, List.length_nil, List.flatMap_append, List.flatMap_cons, List.flatMap_nil, List.append_nil]
    refine ⟨h2.1, ?_⟩
    rcases h2.2 with ⟨he, _⟩ | ⟨g', cap', cur, he, hg, hh, hc⟩
    · cases he
    · refine .inr ⟨g', cap', cur, he, hg, ?_, hc⟩
      have e : g' = g := by injection he with h1; injection h1 with h1; injection h1 with h1; exact h1.symm
      subst e
      exact blk_far hh (p := ⟨D, 1, none⟩) hgD _
  · rw [Below.heap_setCell w5 ⟨D, 1, none⟩ _ k n1, h3.block k (by simp; omega) (fun e => ?_)]
    · exact Below.heap_alloc w.drew o k hk
    · obtain ⟨hA, _⟩ := hob k e.symm
      exact n3 _ hA rfl
  · obtain rfl := Option.some.inj ha
    rcases h4 with h4 | h4
    · exact .inl (hob g h4).1
    · exact .inr (by show w.heap.size ≤ g; omega)
theorem array54 (ad : Addr) (cb : Nat) (W : World) : (Instr.arrayAt 54 (.slice (some ad) 16 cb)).run Try.prog W = .ok (.pointer (some ad)) W := by
  simp [Instr.arrayAt, run_underlying Try.underlying54 W]
theorem infoS {i : TypeInfo} (h : Try.prog.info? 56 = some i) : i.size = 17 := by
  have : (Try.prog.info? 56).map (·.size) = some 17 := by kernel_rfl
  rw [h] at this
  exact Option.some.inj this
theorem infoB {i : TypeInfo} (h : Try.prog.info? 56 = some i) : i.bytes = 24 := by
  have : (Try.prog.info? 56).map (·.bytes) = some 24 := by kernel_rfl
  rw [h] at this
  exact Option.some.inj this
theorem wrC_one (p : Int × List Int) : ∀ u ∈ wrC p, u.oneCell' = true := by
  intro u hu
  simp only [wrC, secC, List.mem_cons, List.mem_map] at hu
  rcases hu with rfl | ⟨y, -, rfl⟩ <;> rfl
theorem lit_cells (w : World) (p : Int × List Int) {e : TypeId} : ∀ j u, (wrC p)[j]? = some u → (w.alloc (.cells (wrC p).toArray e)).cell? ((⟨w.heap.size, 0, none⟩ : Addr).add j) = some u := by
  intro j u hu
  rw [add_zero_at, cell_of_row _ _ _ _ _ _ (blk_new w _), List.getElem?_toArray]
  exact hu
set_option maxHeartbeats 2000000 in
set_option maxRecDepth 100000 in
theorem write_yes (base D gS cW : Nat) (A : Option Addr) (S : List (List Int)) (W : List (Int × List Int)) (i : Int) (x0 x1 x2 x3 x4 x5 x6 x7 x8 x9 x10 x11 x12 x13 x14 x15 : Int) (ad : Addr) (cb : Nat) (w : World) (h : DiskAt base D gS A cW S W w)
    (hi : decide (i ≥ 0) = true) (hj : decide (i < (S.length : Int)) = true) (hn : W.length < 1099511627776) (hcb : 16 ≤ cb) (hb : ∀ j v, (secC [x0, x1, x2, x3, x4, x5, x6, x7, x8, x9, x10, x11, x12, x13, x14, x15])[j]? = some v → w.cell? (ad.add j) = some v) :
    Calls Try.prog 13 #[.pointer (some ⟨D, 0, none⟩), .int .i64 i, .slice (some ad) 16 cb] w fun x w' => x = .returned (.int .i64 0) ∧ ∃ A' cW', DiskAt base D gS A' cW' S (W ++ [(i, [x0, x1, x2, x3, x4, x5, x6, x7, x8, x9, x10, x11, x12, x13, x14, x15])]) w' ∧ Touch D gS A w w' ∧ (∀ a, A' = some a → A = A' ∨ w.heap.size ≤ a.block) := by
  have q0 : w.cell? ⟨D, 0, none⟩ = some (.slice (some ⟨gS, 0, none⟩) S.length S.length) := (blk_cell h.1 0).trans rfl
  have q1 : w.cell? ⟨D, 1, none⟩ = some (.slice A W.length cW) := (blk_cell h.1 1).trans rfl
  have H := Aside0.mk h
  have HN := Aside0.mk hn
  have HB := Aside0.mk hb
  clear h hn hb
  go_enter Try.func13, Try.ntmps13
  go_wp2_with (go_at_call 24; go_in)
  have HD := Aside0.mk H.out.1
  have hDl : D < w.heap.size := blk_lt H.out.1
  have HDW := Aside0.mk (show ∀ g, (Value.slice A W.length cW).ownBlock = some g → g ≠ D by
    intro g hg
    rcases H.out.2.2.2.2.2 with ⟨he, _⟩ | ⟨g', cap, cur, he, _, hh, _⟩
    · rw [he] at hg; simp [Value.ownBlock] at hg
    · rw [he] at hg
      simp only [Value.ownBlock, Option.some.injEq] at hg
      subst hg
      exact blk_ne hh H.out.1 (by decide))
  have y1 : w.cell? ⟨ad.block, ad.off + 1, none⟩ = some (.int .u8 x1) := by have h0 := HB.out 1 _ rfl; simpa [Addr.add] using h0
  have y2 : w.cell? ⟨ad.block, ad.off + 2, none⟩ = some (.int .u8 x2) := by have h0 := HB.out 2 _ rfl; simpa [Addr.add] using h0
  have y3 : w.cell? ⟨ad.block, ad.off + 3, none⟩ = some (.int .u8 x3) := by have h0 := HB.out 3 _ rfl; simpa [Addr.add] using h0
  have y4 : w.cell? ⟨ad.block, ad.off + 4, none⟩ = some (.int .u8 x4) := by have h0 := HB.out 4 _ rfl; simpa [Addr.add] using h0
  have y5 : w.cell? ⟨ad.block, ad.off + 5, none⟩ = some (.int .u8 x5) := by have h0 := HB.out 5 _ rfl; simpa [Addr.add] using h0
  have y6 : w.cell? ⟨ad.block, ad.off + 6, none⟩ = some (.int .u8 x6) := by have h0 := HB.out 6 _ rfl; simpa [Addr.add] using h0
  have y7 : w.cell? ⟨ad.block, ad.off + 7, none⟩ = some (.int .u8 x7) := by have h0 := HB.out 7 _ rfl; simpa [Addr.add] using h0
  have y8 : w.cell? ⟨ad.block, ad.off + 8, none⟩ = some (.int .u8 x8) := by have h0 := HB.out 8 _ rfl; simpa [Addr.add] using h0
  have y9 : w.cell? ⟨ad.block, ad.off + 9, none⟩ = some (.int .u8 x9) := by have h0 := HB.out 9 _ rfl; simpa [Addr.add] using h0
  have y10 : w.cell? ⟨ad.block, ad.off + 10, none⟩ = some (.int .u8 x10) := by have h0 := HB.out 10 _ rfl; simpa [Addr.add] using h0
  have y11 : w.cell? ⟨ad.block, ad.off + 11, none⟩ = some (.int .u8 x11) := by have h0 := HB.out 11 _ rfl; simpa [Addr.add] using h0
  have y12 : w.cell? ⟨ad.block, ad.off + 12, none⟩ = some (.int .u8 x12) := by have h0 := HB.out 12 _ rfl; simpa [Addr.add] using h0
  have y13 : w.cell? ⟨ad.block, ad.off + 13, none⟩ = some (.int .u8 x13) := by have h0 := HB.out 13 _ rfl; simpa [Addr.add] using h0
  have y14 : w.cell? ⟨ad.block, ad.off + 14, none⟩ = some (.int .u8 x14) := by have h0 := HB.out 14 _ rfl; simpa [Addr.add] using h0
  have y15 : w.cell? ⟨ad.block, ad.off + 15, none⟩ = some (.int .u8 x15) := by have h0 := HB.out 15 _ rfl; simpa [Addr.add] using h0
  have yy : w.cell? ad = some (.int .u8 x0) := by
    have h0 := HB.out 0 _ rfl
    have e : ad.add 0 = ad := by unfold Addr.add; simp
    rwa [e] at h0
  obtain ⟨i56, hi56, hz56⟩ := info56
  have HI := Aside0.mk hi56
  have HZ := Aside0.mk hz56
  clear hi56 hz56
  have hat := array54 ad cb
  go_region_law (refine step_append_lies _ rfl (.tmp 20) (.tmp 26) 49 rfl base 56 i56 _ 17 24 Try.underlying49 HI.out HZ.out (infoS HI.out) (infoB HI.out) (by kernel_rfl) (by decide) (.slice A W.length cW) W.length (W.flatMap wrC) rfl (own_below' H.out.2.2.2.2 (below_alloc (below_drew (Below.refl _ _)) _)) ⟨w.heap.size, 0, none⟩ 1 1 (wrC (i, [x0, x1, x2, x3, x4, x5, x6, x7, x8, x9, x10, x11, x12, x13, x14, x15])) rfl rfl (lit_cells w.drew _) (wrC_one _) (by decide) (by have := HN.out; simp only [maxLen]; omega) (by have := HN.out; omega) (by have := H.out.2.1; have := blk_lt H.out.1; simp; omega) (w.heap.size + 1) (by simp) ?_; intro g cap w5 h2 h3 h4 h5; have H2 := Aside0.mk h2; have H3 := Aside0.mk h3; have H4 := Aside0.mk h4; have q5 : w5.cell? ⟨D, 1, none⟩ = some (.slice A W.length cW) := (blk_cell (blk_grown (blk_alloc (blk_drew HD.out) _) h3 (fun e => HDW.out D e.symm rfl)) 1).trans rfl; have f5 := blk_frozen (blk_grown (blk_alloc (blk_drew HD.out) (.cells #[.int .i64 i, .int .u8 x0, .int .u8 x1, .int .u8 x2, .int .u8 x3, .int .u8 x4, .int .u8 x5, .int .u8 x6, .int .u8 x7, .int .u8 x8, .int .u8 x9, .int .u8 x10, .int .u8 x11, .int .u8 x12, .int .u8 x13, .int .u8 x14, .int .u8 x15] 56)) h3 (fun e => HDW.out D e.symm rfl)) 1; clear h2 h3 h4 h5)
  all_goals go_wp2
  all_goals go_ret
  all_goals exact ⟨rfl, _, _, (write_end H.out H2.out H3.out H4.out).1, (write_end H.out H2.out H3.out H4.out).2.1, (write_end H.out H2.out H3.out H4.out).2.2⟩
end Go.Proofs.Ytfmgealooebciaa.PAll
