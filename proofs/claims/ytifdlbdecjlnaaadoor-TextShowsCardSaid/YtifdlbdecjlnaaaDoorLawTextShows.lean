/- TextShows: the line that asks for anything, or that it can't be asked for, is what the document says; so are the words. For every input, no condition beyond the card's own tables. -/
import Derived.Test.YtifdlbdecjlnaaaDoorTxRowP
import Derived.Test.YtifdlbdecjlnaaaDoorTxShows
import Derived.Test.YtifdlbdecjlnaaaDoorOpens
namespace Go.Proofs.YtifdlbdecjlnaaaDoor
open Go.RowKit Go.ChangeShapes Go.WideShapes Go.ChangeAt Go.Proofs.YtifdlbdecjlnaaaDoor.Rowx Go.Proofs.YtifdlbdecjlnaaaDoorW.PrintWords
theorem textShows_laidOut : laidOutB Tryd.prog = true := by kernel_rfl
set_option maxRecDepth 100000 in
theorem textShows_opens : Opens Tryd.prog 24 (Kd.pair (Kd.int .i64) (Kd.pair (Kd.int .i64) (Kd.pair (Kd.int .i64) (Kd.pair (Kd.int .i64) (Kd.pair (Kd.int .i64) Kd.string))))) (fun x => (Lit.int .i64 x.1).wf = true ∧ (Lit.int .i64 x.2.1).wf = true ∧ (Lit.int .i64 x.2.2.1).wf = true ∧ (Lit.int .i64 x.2.2.2.1).wf = true ∧ (Lit.int .i64 x.2.2.2.2.1).wf = true ∧ x.2.2.2.2.2.size ≤ maxLen) :=
  Opens.struct Tryd.underlying24 (by kernel_rfl) (OpensF.cons rfl (Opens.int Tryd.underlying3 (by kernel_rfl)) (OpensF.cons rfl (Opens.int Tryd.underlying3 (by kernel_rfl)) (OpensF.cons rfl (Opens.int Tryd.underlying3 (by kernel_rfl)) (OpensF.cons rfl (Opens.int Tryd.underlying3 (by kernel_rfl)) (OpensF.cons rfl (Opens.int Tryd.underlying3 (by kernel_rfl)) (OpensF.last rfl (Opens.string Tryd.underlying9 (by kernel_rfl))))))))
set_option maxRecDepth 100000 in
theorem textShows_lifted (os : Os) (started : os.Started) (H : Type) (enc : TypeId × Value → H) :
    ReturnsInHanded {} Tryd.checked os 6 .any (fun w args => (Rows.textShowsSpec.pre enc Tryd.prog Tryd.f6 [] false w args ∧ laidMetH Tryd.prog Rows.textShowsRow.laid w) ∧ sizedMet enc Tryd.prog Tryd.f6 (OpenSpec.ofChange Rows.textShowsSpec) false w args)
      (Rows.textShowsSpec.post enc Tryd.prog Tryd.f6 false true false false) := by
  refine returnsInHanded_of_change_and (C := Tryd.checked) (X := fun w _ => laidMetH Tryd.prog Rows.textShowsRow.laid w) (fun _ _ _ hh h => h.of_heap hh) PAll.own started (by kernel_rfl) Tryd.func6
    (ChangeSpec.witness_shaped (enc := enc) (C := Tryd.checked) (os := os) (X := fun w _ => laidMetH Tryd.prog Rows.textShowsRow.laid w) false (World.laidAll Tryd.prog os Rows.textShowsRow.laid) #[.agg #[.int .i64 0, .int .i64 0, .int .i64 0, .int .i64 0, .int .i64 0, .string ⟨#[]⟩]] 8 (World.laidAll_os _ _ _)
      (World.shaped_of_ZipB (by kernel_rfl) (by kernel_rfl)) (by kernel_rfl) (by kernel_rfl) (by kernel_rfl)
      (by rw [MakeChecks.laidMetH_plain _ _ _ (by kernel_rfl)]; exact laidMet_laidAll _ (by kernel_rfl) (by kernel_rfl))) ?_
  intro W base args ds gs before hval0 hW _ _ hL _
  have hval : ∀ (j : Nat) t v, Tryd.f6.params[j]? = some t → args[j]? = some v → Value.okWide Tryd.prog W .any base t v := hval0
  have hW' := hW
  obtain ⟨p, q, hA0, hV, rfl, _, _⟩ := hW
  have hA : DataW.TrodAll enc Tryd.prog W 0 (fun _ => true) true Tryd.f6.params.toList args.toList ds p := hA0
  rw [Tryd.params6] at hA hval
  obtain ⟨v0, vs0, d0, ds0, p0, q0, hargs, rfl, rfl, h0, r0⟩ := trodAll_cons hA
  obtain ⟨rfl, rfl, rfl⟩ := trodAll_nil r0
  obtain rfl : args = #[v0] := by cases args; simp_all
  obtain ⟨rfl, rfl⟩ := trodVars_none hV
  have k0 := h0
  have lt0 : ∀ x ∈ p0, x.block < W.heap.size := by obtain ⟨m, hm⟩ := k0; exact DataW.trod_lt m _ _ _ hm
  obtain ⟨cs0, x0, rfl, hK0, hg0⟩ := open_struct Tryd.underlying24 textShows_opens (hval 0 24 v0 rfl rfl) h0
  obtain ⟨a0, a1, k, n, m, s⟩ := x0
  have he0 : cs0 = #[.int .i64 a0, .int .i64 a1, .int .i64 k, .int .i64 n, .int .i64 m, .string s] := by
    obtain ⟨b0, c0, e0, rfl, b1, c1, rfl, rfl, b2, c2, rfl, rfl, b3, c3, rfl, rfl, b4, c4, rfl, rfl, rfl⟩ := hK0
    exact Array.toList_inj.1 e0
  subst he0
  rw [MakeChecks.laidMetH_plain _ _ _ (by kernel_rfl)] at hL
  have hT := PAll.tabs_of hL
  obtain ⟨tl, rfl⟩ := PAll.Str_ext s
  refine (PAll.shows_w a0 a1 k n m tl W hT (PAll.pow_of hL)).mono fun e W' ⟨he, bel⟩ => ?_
  subst he
  exact ⟨_, rfl, _, _, _, [], _, [], hW', trodAll_mk1 (shut_bool Tryd.underlying4 _), (trodAll_cons_mk (Below.trod textShows_laidOut (by kernel_rfl) (of_decide_eq_true (by kernel_rfl)) k0 bel lt0) trodAll_mk0), rfl, bel.frame _, fun h => by cases h⟩
theorem textShows_said : Rows.TextShowsSaid :=
  OpenClaim.holds_of_wide 6 Tryd.f6 rfl rfl rfl rfl rfl rfl rfl ⟨rfl, rfl, rfl, rfl, rfl⟩ rfl rfl rfl rfl rfl (by kernel_rfl) Tryd.func6 (by kernel_rfl)
    (of_decide_eq_true (by kernel_rfl)) (by unfold Func.isWrapper; first | (rw [if_pos (by decide +kernel)]; kernel_rfl) | (rw [if_neg (by decide +kernel)]; exact ⟨rfl, rfl⟩))
    (fun os started H enc _ => textShows_lifted os started H enc)
theorem textShows_holds : Rows.TextShowsCardSaid :=
  Claim7.holds_tied_plain_at .later [] [.data, .data, .data, .data, .sentinel, .sentinel, .pinned] true (true, "45425d08432868c48996ea5a89de583eb3e1b73d06de418a219c01ca96b47d8d") true textShows_said (fun _ h => by cases h) (by kernel_rfl) (fun _ h => by cases h) textShows_row_tie rfl ⟨rfl, rfl⟩ (by kernel_rfl) rfl
    (fun f fn hf hfn => by
      obtain rfl : f = 6 := Option.some.inj ((show Tryd.prog.funcNamed "colloquy/colloquylaw14.TextShows" = some 6 by kernel_rfl).symm.trans hf) |>.symm
      obtain rfl : fn = Tryd.f6 := (Option.some.inj (Tryd.func6.symm.trans hfn)).symm
      exact ⟨by kernel_rfl, fun j t ht => by
        rw [Tryd.params6] at ht
        have hm : t ∈ [24] := by simpa using Array.mem_of_getElem? ht
        have hall : ([24].all fun u => !Tryd.prog.wantsStandIn u) = true := by kernel_rfl
        exact (show Tryd.prog.wantsStandIn t = false by simpa using List.all_eq_true.1 hall t hm)⟩)
    (by kernel_rfl)
end Go.Proofs.YtifdlbdecjlnaaaDoor
