/- The reference's disk: put, Write. -/
import Derived.Test.YtfmgealooebciaaRefDisk
namespace Go.Proofs.Ytfmgealooebciaa.PAll
open Go.RowKit Go.Proofs.YtfmgealooebciaaW.PrintWords Go.Proofs.YtfmgealooebciaaW.PrintLast Go.Proofs.YtfmgealooebciaaW.PrintMore
set_option linter.unusedVariables false
set_option linter.unusedSimpArgs false
theorem info5' : ∃ i, Try.prog.info? 5 = some i ∧ i.size = 1 := ⟨(Try.prog.info? 5).get (by kernel_rfl), (Option.some_get _).symm, by kernel_rfl⟩
theorem own_some {w : World} {base : Nat} {e : TypeId} {size n : Nat} {v : Value} {xs : List Value} (h : w.ownsRow base e size v n xs) (hn : 0 < n) : ∃ g c, v = .slice (some ⟨g, 0, none⟩) n c := by
  rcases h.2 with ⟨_, h0⟩ | ⟨g, cap, cur, he, _⟩
  · omega
  · exact ⟨g, cap, he⟩
set_option maxHeartbeats 2000000 in
set_option maxRecDepth 100000 in
theorem refput_walk (base D : Nat) (vS vW : Value) (S : List (List Int)) (W : List (Int × List Int)) (i : Int) (b : List Int) (Ab : Option Addr) (cb n : Nat) (w : World) (h : RefAt base D vS vW S W w) (hb : Kd.C (Kd.int .u8) w Ab 16 b) (hcb : 16 ≤ cb) (h0 : 0 ≤ i) (h1 : i < (S.length : Int)) (hs : (S.getD i.toNat []).length = 16) (hn : n ≤ 16) :
    Calls Try.prog 26 #[.pointer (some ⟨D, 0, none⟩), .agg #[.int .i64 i, .slice Ab 16 cb], .int .i64 (n : Int)] w fun x w' => x = .returned (.tuple #[]) ∧ RefAt base D vS vW (S.set i.toNat (b.take n ++ (S.getD i.toNat []).drop n)) W w' ∧ RTouch D vS vW w w' := by
  obtain ⟨inner, hown⟩ := Kd.R_own h.rs
  obtain ⟨g, cS, rfl⟩ := own_some hown (by omega)
  have H := Aside0.mk h
  have HBb := Aside0.mk hb
  have HBL := Aside0.mk (show b.length = 16 from hb.1)
  have HV := Aside0.mk (And.intro h0 h1)
  have HS := Aside0.mk hs
  have HN := Aside0.mk hn
  have HCB := Aside0.mk hcb
  obtain ⟨i5, hi5, hz5⟩ := info5'
  have hcutA := cut_to (P := Try.prog) 30 5 .i64 Try.underlying30 hi5 Ab 16 cb (n : Int) (Int.natCast_nonneg n) (by omega) hcb
  rw [Int.toNat_natCast] at hcutA
  have p2 := eq_true h0
  have p3 := eq_true h1
  have HCT := Aside0.mk (show ∀ W, Kd.C (Kd.int .u8) W Ab 16 b → Kd.C (Kd.int .u8) W Ab n (b.take n) from fun W hW => by
    have hW' : Kd.C (Kd.int .u8) W Ab b.length b := by rw [HBL.out]; exact hW
    have := Kd.C_take hW' (m := n) (by rw [HBL.out]; exact HN.out)
    rwa [List.length_take, HBL.out, Nat.min_eq_left HN.out] at this)
  have HI5 := Aside0.mk hi5
  have HZ5 := Aside0.mk hz5
  clear h hb hown hs hn hcb hi5 hz5 h0 h1
  go_enter Try.func26, Try.ntmps26
  go_wp2_with ((with_reducible refine gate_builtin (b := .append) (xs := #[.const (.slice none 0 0), .tmp 10]) rfl ?_); at_builtin; refine Kd.R_append_rows (Kd.int .u8) (w0 := w) w.heap.size rfl (.const (.slice none 0 0)) (.tmp 10) 30 5 (.int .u8 0) 1 rfl Try.underlying30 info5 rfl (by decide) (by omega) (.slice none 0 0) [] (b.take n) Ab n cb (fun _ => True) (fun _ => False) rfl rfl (Kd.R_nil _ _ _ _ _) (HCT.out _ (Kd.C_alloc HBb.out _)) (fun _ _ h => h) (fun _ h => h.elim) (fun _ _ => trivial) (below_alloc (Below.refl _ _) _) ?aS ?aL ?_; (case aS => simp); (case aL => have := HN.out; simp; omega); intro v1 w1 ho hb1 hg hat; have HO1 := Aside0.mk ho; have HB1 := Aside0.mk hb1; have HG1 := Aside0.mk hg; clear ho hb1 hg hat)
  rw [List.nil_append] at HO1
  have H1 := Aside0.mk (H.out.below HB1.out)
  have HX1 := Aside0.mk (blk_grown (blk_new w (.cells #[.int .i64 i, .slice Ab 16 cb] 58)) HG1.out (by simp [Value.ownBlock]))
  obtain ⟨ad, A0, c0, e0, hx0, hl0, hi0⟩ := at_L2 (Kd.R_reads' H1.out.rs).2.2 i HV.out.1 HV.out.2
  cases e0
  rw [add_plain] at hx0
  rw [show rd_L2 S i = S.getD i.toNat [] from rfl] at hx0 hl0 hi0
  rw [HS.out] at hx0 hl0 hi0
  have hd0 := blk_cell HX1.out 0
  have hD0 := blk_cell H1.out.blk 0
  have hcutB := cut_from (P := Try.prog) 30 5 .i64 Try.underlying30 HI5.out 1 HZ5.out A0 16 c0 (n : Int) (Int.natCast_nonneg n) (by have := HN.out; omega)
  rw [Int.toNat_natCast] at hcutB
  obtain ⟨A1, hA1⟩ : ∃ A1, A1 = (if c0 = n then A0 else A0.map (·.add (n * 1))) := ⟨_, rfl⟩
  rw [← hA1] at hcutB
  have HCB1 := Aside0.mk (show Kd.C (Kd.int .u8) w1 A1 (16 - n) ((S.getD i.toNat []).drop n) from by
    have hC : Kd.C (Kd.int .u8) w1 A0 (S.getD i.toNat []).length (S.getD i.toNat []) := by rw [HS.out]; exact hi0
    have := Kd.C_drop hC (m := n) (c := c0) (by rw [HS.out]; exact HN.out) (by rw [HS.out]; exact hl0)
    rw [List.length_drop, HS.out] at this
    rw [hA1]; exact this)
  clear hi0 hl0 hA1
  obtain ⟨Av1, cv1, e1⟩ := Kd.R_slice HO1.out
  rw [show (b.take n).length = n by rw [List.length_take, HBL.out, Nat.min_eq_left HN.out]] at e1
  subst e1
  go_still_tail 11, (by kernel_rfl)
  change wpList _ _ _ _ _ w1.drew
  clear hx0 hd0 hD0 hcutB
  go_wp2_with ((with_reducible refine gate_builtin (b := .append) (xs := #[.tmp 12, .tmp 22]) rfl ?_); at_builtin; refine Kd.R_append_rows (Kd.int .u8) (w0 := w) w.heap.size rfl (.tmp 12) (.tmp 22) 30 5 (.int .u8 0) 1 rfl Try.underlying30 info5 rfl (by decide) (by omega) (.slice Av1 n cv1) (b.take n) ((S.getD i.toNat []).drop n) A1 (16 - n) (c0 - n) (fun _ => True) (fun _ => False) rfl rfl (Kd.R_drew HO1.out) (Kd.C_below HCB1.out (below_drew (Below.refl _ _))) (fun _ _ h => h) (fun _ h => h.elim) (fun _ _ => trivial) (below_drew HB1.out) ?aS ?aL ?_; (case aS => exact HB1.out.size); (case aL => have := HN.out; have := HBL.out; simp; omega); intro v2 w2 ho hb2 hg hat; have HO2 := Aside0.mk ho; have HB2 := Aside0.mk hb2; have HG2 := Aside0.mk hg; clear ho hb2 hg hat)
  have H2 := Aside0.mk (H.out.below HB2.out)
  have HX2 := Aside0.mk (blk_grown (blk_drew HX1.out) HG2.out (Kd.R_ne HO1.out HX1.out (by decide)))
  obtain ⟨ad, A0', c0', e0, hx0, hl0, hi0⟩ := at_L2 (Kd.R_reads' H2.out.rs).2.2 i HV.out.1 HV.out.2
  cases e0
  rw [add_plain] at hx0
  rw [show rd_L2 S i = S.getD i.toNat [] from rfl, HS.out] at hx0
  have HC0 := Aside0.mk hx0
  clear hl0 hi0 hx0
  have hd0 := blk_cell HX2.out 0
  have hD0 := blk_cell H2.out.blk 0
  go_still_tail 8, (by kernel_rfl)
  change wpList _ _ _ _ _ w2.drew
  clear hd0 hD0
  obtain ⟨inner2, hown2⟩ := Kd.R_own H2.out.rs
  obtain ⟨cells2, hc2⟩ := own_typed hown2 g (by simp [Value.ownBlock])
  have HC2 := Aside0.mk hc2
  clear hown2 hc2 inner2
  refine Kd.R_store (Kd.slice 5 (Kd.int .u8)) (w0 := w) base rfl rfl 30 (.tmp 31) (.tmp 30) rfl 30 i 0 S (b.take n ++ (S.getD i.toNat []).drop n) v2 [v2] [.slice A0' 16 c0'] (fun _ => True) (fun k => True ∧ k ≠ g) rfl (by show i.toNat = i.toNat * 1 + 0; omega) rfl ?hu (by kernel_rfl) ?hone (Kd.R_drew H2.out.rs) HV.out.1 HV.out.2 rfl ?hcc (Nat.le_refl 1) ?hM (fun _ hk => hk) ?hB ?_
  case hu =>
    obtain ⟨A, c, e⟩ := Kd.R_slice HO2.out
    subst e
    rfl
  case hone =>
    obtain ⟨A, c, e⟩ := Kd.R_slice HO2.out
    subst e
    intro q hq
    rw [List.mem_singleton] at hq
    subst hq
    rfl
  case hcc =>
    intro j u hu
    cases j with
    | succ j => simp at hu
    | zero =>
      simp only [List.getElem?_cons_zero, Option.some.injEq] at hu
      subst hu
      have := HC0.out
      show w2.drew.cell? ⟨g, i.toNat * 1 + 0, none⟩ = _
      rw [Nat.mul_one, Nat.add_zero]
      exact this
  case hM => exact ⟨v2, rfl, Kd.R_drew (Kd.R_lower (Kd.R_types HO2.out HC2.out (by decide)) (Nat.le_trans H.out.le (Nat.le_of_lt (blk_lt H.out.blk))))⟩
  case hB => exact below_drew (HB2.out.mono (Nat.le_trans H.out.le (Nat.le_of_lt (blk_lt H.out.blk))))
  intro w3 ho3 hb3 hg3
  have HO3 := Aside0.mk ho3
  have HG3 := Aside0.mk hg3
  clear ho3 hb3 hg3
  go_wp2
  go_end0
  have hne : D ≠ g := blk_ne H2.out.blk HC2.out (by decide)
  refine ⟨rfl, ⟨blk_grown (blk_drew H2.out.blk) HG3.out (fun e => hne (Option.some.inj e)), H.out.le, HO3.out, ?_⟩, ?_⟩
  · refine Kd.R_mono (Kd.R_grown (Kd.R_types (Kd.R_drew H2.out.rw) (blk_drew HC2.out) (by decide)) HG3.out (fun k hk e => hk.2 (Option.some.inj e))) (fun _ _ => trivial)
  · exact (((RTouch.refl D _ _ w).below HB2.out).below (below_drew (Below.refl _ _))).grown HG3.out (fun k hk => .inl (.inr (.inl (by rw [← hk]; rfl))))
end Go.Proofs.Ytfmgealooebciaa.PAll
