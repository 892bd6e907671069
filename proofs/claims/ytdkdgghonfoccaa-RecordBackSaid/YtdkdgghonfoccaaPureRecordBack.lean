/- Proved: records that were put are got one by one, whatever follows, and all together as they were. Condition: none beyond the guard of the statement. -/
import Derived.Test.YtdkdgghonfoccaaPAllx10
import Derived.Test.YtdkdgghonfoccaaRecAll
namespace Go.Proofs.Ytdkdgghonfoccaa.Pure
open Go.RowKit Go.Proofs.Ytdkdgghonfoccaa.PAll Go.Proofs.YtdkdgghonfoccaaW.PrintWords Go.Proofs.YtdkdgghonfoccaaW.PrintLast Go.Proofs.YtdkdgghonfoccaaW.PrintMore
theorem back_l (l : List S24) (more : List Int) (hl : l.length ≤ 10) (hm : more.length ≤ 100) (hmb : Bs more) (hb : ∀ r ∈ l, Bs r.f1) : ∀ (d i : Nat), l.length - i = d → i ≤ l.length → (∀ r ∈ l.take i, OkR r) →
    Ev (fun k => colloquylaw03_RecordBack.l0 k l more (framesOf (l.take i)) (i : Int)) true := by
  intro d
  induction d with
  | zero =>
    intro i hd hi hok
    have ei : i = l.length := by omega
    subst ei
    rw [List.take_length] at hok ⊢
    have h1 := framesOf_len hok
    refine Ev.step (fun k => by rw [colloquylaw03_RecordBack.l0, if_neg (by omega)]) ?_
    refine Ev.bind (rall_ev (framesOf_bytes hok) (by omega)) ?_
    rw [ralls_frames hok _ _ (Nat.le_refl _), List.nil_append]
    refine Ev.bind (rsame_ev (l := l) (by omega)) ?_
    simp only [if_true]
    exact Ev.now _
  | succ d ih =>
    intro i hd hi hok
    have hlt : i < l.length := by omega
    generalize hr : l.getD i ⟨0, []⟩ = r
    have hrd : rd_T24 l (i : Int) = r := by rw [← hr]; rfl
    have hmem : r ∈ l := by rw [← hr, getD_lt hlt]; exact List.getElem_mem hlt
    have h1 := framesOf_len hok
    have h1l : (l.take i).length ≤ 10 := by rw [List.length_take]; omega
    by_cases g : (r.f1.length : Int) > 1200
    · exact Ev.step (f := fun _ => some true) (fun k => by rw [colloquylaw03_RecordBack.l0, if_pos (by omega), if_pos (by omega), hrd, if_pos g]) (Ev.now _)
    refine Ev.step (fun k => by rw [colloquylaw03_RecordBack.l0, if_pos (by omega), if_pos (by omega), hrd, if_neg g]) ?_
    refine Ev.bind (rput_ev (hb r hmem)) ?_
    by_cases c : (recOf r.f0 r.f1).2 = 0
    · refine Ev.congr (fun k => if_pos c) ?_
      have hfl := recOf_len r.f0 r.f1
      obtain ⟨h0, h2, h3, e⟩ := recOf_zero c
      rw [e] at hfl ⊢
      simp only at hfl
      refine Ev.congr (fun k => if_pos (by simp only [List.length_nil]; omega)) ?_
      simp only [Option.bind_some, List.nil_append]
      refine Ev.congr (fun k => if_pos (by omega)) ?_
      refine Ev.bind (rget_ev (Bs.append (frame_bytes _ (hb r hmem)) hmb) (by rw [List.length_append]; omega)) ?_
      rw [rgetOf_rec (by omega) h3, idx_step (by omega)]
      refine Ev.congr (fun k => if_pos (by omega)) (Ev.congr (fun k => if_pos (by omega)) ?_)
      have hone : (l.take (((i + 1 : Nat) : Int)).toNat).drop ((i : Int)).toNat = [r] := by
        rw [Int.toNat_natCast, Int.toNat_natCast, List.drop_take, Nat.add_sub_cancel_left, drop_cons_getD hlt ⟨0, []⟩, hr]
        rfl
      have htk : l.take (i + 1) = l.take i ++ [r] := by
        rw [List.take_succ_eq_append_getElem hlt, ← hr, getD_lt hlt]
      rw [hone]
      simp only [Int.toNat_of_nonneg h0]
      refine Ev.bind (rsame_ev (l := [r]) (by simp)) ?_
      simp only [if_true]
      refine Ev.congr (fun k => if_pos (by omega)) ?_
      have e2 : framesOf (l.take i) ++ frame r.f0.toNat r.f1 = framesOf (l.take (i + 1)) := by
        rw [htk, framesOf_append, framesOf, framesOf, List.append_nil]
      rw [e2]
      refine ih (i + 1) (by omega) (by omega) ?_
      intro q hq
      rw [htk] at hq
      rcases List.mem_append.1 hq with hq | hq
      · exact hok q hq
      · rw [List.mem_singleton.1 hq]; exact ⟨h0, h2, h3, hb r hmem⟩
    · refine Ev.congr (fun k => if_neg c) ?_
      rw [recOf_err c]
      exact Ev.now _
theorem RecordBack (l : List S24) (more : List Int) (h : ∀ x ∈ l, (Lit.int .i64 x.f0).wf = true ∧ x.f1.length ≤ maxLen ∧ ∀ c ∈ x.f1, (Lit.int .u8 c).wf = true) (hm : ∀ c ∈ more, (Lit.int .u8 c).wf = true) : ∃ k, colloquylaw03_RecordBack.f k l more = some true := by
  refine Ev.rounds (Ev.bind awake_ev ?_)
  simp only [if_true]
  have out : Ev (fun k => colloquylaw03_RecordBack.j0 k l more true true) true :=
    Ev.step (f := fun _ => some true) (fun k => by rw [colloquylaw03_RecordBack.j0, if_pos rfl]) (Ev.now _)
  by_cases g : (l.length : Int) > 10
  · exact Ev.congr (fun k => if_pos g) out
  refine Ev.congr (fun k => if_neg g) ?_
  by_cases g2 : (more.length : Int) > 100
  · rw [decide_eq_true g2]; exact out
  rw [decide_eq_false g2]
  refine Ev.step (fun k => by rw [colloquylaw03_RecordBack.j0, if_neg (by decide)]) ?_
  exact back_l l more (by omega) (by omega) (Bs.of hm) (fun r hr => Bs.of (h r hr).2.2) l.length 0 (by omega) (by omega) (by simp)
end Go.Proofs.Ytdkdgghonfoccaa.Pure
