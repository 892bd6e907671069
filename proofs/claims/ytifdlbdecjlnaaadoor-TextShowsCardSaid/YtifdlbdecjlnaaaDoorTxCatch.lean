/- What 'Parse' does on its way out. Conditions: those that each theorem states. -/
import Derived.Test.YtifdlbdecjlnaaaDoorTxText
import Derived.Test.YtifdlbdecjlnaaaDoorTxMem
namespace Go.Proofs.YtifdlbdecjlnaaaDoor.PAll
open Go.RowKit Go.Proofs.YtifdlbdecjlnaaaDoorW.PrintWords Go.Proofs.YtifdlbdecjlnaaaDoorW.PrintLast Go.Proofs.YtifdlbdecjlnaaaDoorW.PrintMore
set_option linter.unusedVariables false
set_option linter.unusedSimpArgs false
theorem run_assert (v : Value) (w : World) : (Instr.typeAssert (.iface 37 v) 20 37 true).run Tryd.prog w = .ok (.tuple #[v, .bool true]) w := by
  unfold Instr.typeAssert
  simp [Sem.run_bind, run_underlying Tryd.underlying37]
theorem blk_lt {w : World} {c : Nat} {o : Obj} (h : w.heap[c]? = some o) : c < w.heap.size := by
  by_cases hc : c < w.heap.size
  · exact hc
  · rw [Array.getElem?_eq_none (by omega)] at h; cases h
theorem six (cs : Array Value) (h : cs.size = 6) : ∃ v0 v1 v2 v3 v4 v5, cs = #[v0, v1, v2, v3, v4, v5] := by
  rcases cs with ⟨l⟩
  match l, h with
  | [v0, v1, v2, v3, v4, v5], _ => exact ⟨v0, v1, v2, v3, v4, v5, rfl⟩
/-- An empty command's cells. -/
def zeroCmd : Array Value := #[.int .i64 0, .int .i64 0, .int .i64 0, .int .i64 0, .int .i64 0, .string ⟨#[]⟩]
theorem run_store_cmd (c : Nat) (cs0 cs : Array Value) (hc : cs0.size = 6) (hs : cs.size = 6) (h1 : cs.all (·.oneCell') = true) (W : World) (hW : W.heap[c]? = some (.cells cs0 24 (0, 0))) : (storeVar 24 ⟨c, 0, none⟩ (.agg cs)).run Tryd.prog W = .ok () (W.setRow c cs) := by
  have := run_storeVar_at (P := Tryd.prog) W c 0 24 24 cs0 cs hW (by rw [hs]; kernel_rfl) (by omega) h1
  have e : splice cs0.toList 0 cs.toList = cs.toList := by
    unfold splice
    rw [List.take_zero, List.nil_append, List.drop_eq_nil_of_le (by rw [Array.length_toList, Array.length_toList]; omega), List.append_nil]
  rw [this, e]
/-- Behind a call: the blocks c and e of the results hold cs and v; of what was there else nothing has turned. -/
structure Res (c e : Nat) (cs : Array Value) (v : Value) (w0 w : World) : Prop where
  os : w.os = w0.os
  tape : w.tape = w0.tape
  output : w.output = w0.output
  size : w0.heap.size ≤ w.heap.size
  block : ∀ k, k < w0.heap.size → k ≠ c → k ≠ e → w.heap[k]? = w0.heap[k]?
  cmd : w.heap[c]? = some (.cells cs 24 (0, 0))
  err : w.heap[e]? = some (.cells #[v] 25 (0, 0))
theorem Res.below {c e : Nat} {cs : Array Value} {v : Value} {w0 w w' : World} (h : Res c e cs v w0 w) (hb : Below w.heap.size w w') : Res c e cs v w0 w' :=
  ⟨hb.os.trans h.os, hb.tape.trans h.tape, hb.output.trans h.output, Nat.le_trans h.size hb.size, fun k hk h1 h2 => (hb.block k (Nat.lt_of_lt_of_le hk h.size)).trans (h.block k hk h1 h2), (hb.block c (blk_lt h.cmd)).trans h.cmd, (hb.block e (blk_lt h.err)).trans h.err⟩
theorem Res.drew {c e : Nat} {cs : Array Value} {v : Value} {w0 w : World} (h : Res c e cs v w0 w) : Res c e cs v w0 w.drew := ⟨h.os, h.tape, h.output, h.size, h.block, h.cmd, h.err⟩
theorem Res.put {c e : Nat} {cs : Array Value} {v : Value} {w0 w : World} (h : Res c e cs v w0 w) (hne : c ≠ e) (i : Nat) (u : Value) : Res c e (cs.setIfInBounds i u) v w0 (w.setCell ⟨c, i, none⟩ u) :=
  ⟨h.os, h.tape, h.output, by simpa [World.setCell] using h.size, fun k hk h1 h2 => (Below.heap_setCell _ _ _ _ h1).trans (h.block k hk h1 h2), by
    have := h.cmd
    simp [World.setCell, Array.getElem?_modify, this], (Below.heap_setCell _ _ _ _ hne.symm).trans h.err⟩
theorem Res.putE {c e : Nat} {cs : Array Value} {v : Value} {w0 w : World} (h : Res c e cs v w0 w) (hne : c ≠ e) (u : Value) : Res c e cs u w0 (w.setCell ⟨e, 0, none⟩ u) :=
  ⟨h.os, h.tape, h.output, by simpa [World.setCell] using h.size, fun k hk h1 h2 => (Below.heap_setCell _ _ _ _ h2).trans (h.block k hk h1 h2), (Below.heap_setCell _ _ _ _ hne).trans h.cmd, by
    have := h.err
    simp [World.setCell, Array.getElem?_modify, this]⟩
set_option maxRecDepth 100000 in
theorem catch_idle (c e : Nat) (w : World) : CallsD Tryd.prog 19 #[.pointer (some ⟨c, 0, none⟩), .pointer (some ⟨e, 0, none⟩)] .returning w fun en u' w' => en = .returned (.tuple #[]) ∧ u' = .returning ∧ w' = w := by
  refine callsD_of_wpS Tryd.func19 rfl fun c₀ cs hu => ?_
  apply wpS_seq
  apply wpS_region
  simp [wpOpsS, go_sem, recoverD, hu, Tryd.ntmps19, Exit.thenS]
  refine wpS_of_wp ?_
  simp only [Array.replicate_succ, Array.replicate_zero, List.push_toArray, List.nil_append, List.cons_append, List.setIfInBounds_toArray, List.set_cons_succ, List.set_cons_zero, List.append_toArray]
  generalize hQ : (fun e_1 a' w' => bodyPostS Tryd.prog Tryd.f19 c₀ cs _ e_1 a' _ w') = Q
  have hQ' := Aside0.mk hQ
  have hu' := Aside0.mk hu
  clear hQ hu
  go_wp2
  try simp only [Exit.inBlock]
  rw [← hQ'.out]
  exact ⟨rfl, _, by rw [← hu'.out], _, results_none rfl _ _ _, rfl, rfl, rfl⟩
set_option maxRecDepth 100000 in
set_option maxHeartbeats 400000 in
theorem catch_panic (c e : Nat) (x : Int) (older : List PanicEntry) (w : World) (cs0 : Array Value) (hc : cs0.size = 6) (hc2 : w.heap[c]? = some (.cells cs0 24 (0, 0))) (y : Value) (he : w.heap[e]? = some (.cells #[y] 25 (0, 0))) (hne : c ≠ e) :
    CallsD Tryd.prog 19 #[.pointer (some ⟨c, 0, none⟩), .pointer (some ⟨e, 0, none⟩)] (.panicking ({ v := .iface 37 (.agg #[.int .i64 x]), recovered := false } :: older)) w fun en u' w' =>
      en = .returned (.tuple #[]) ∧ u' = .panicking ({ v := .iface 37 (.agg #[.int .i64 x]), recovered := true } :: older) ∧ Res c e zeroCmd (.int .i64 x) w w' := by
  refine callsD_of_wpS Tryd.func19 rfl fun c₀ cs hu => ?_
  apply wpS_seq
  apply wpS_region
  simp [wpOpsS, go_sem, recoverD, hu, Tryd.ntmps19, Exit.thenS]
  refine wpS_of_wp ?_
  simp only [Array.replicate_succ, Array.replicate_zero, List.push_toArray, List.nil_append, List.cons_append, List.setIfInBounds_toArray, List.set_cons_succ, List.set_cons_zero, List.append_toArray]
  generalize hQ : (fun e_1 a' w' => bodyPostS Tryd.prog Tryd.f19 c₀ cs _ e_1 a' _ w') = Q
  have hQ' := Aside0.mk hQ
  clear hQ hu
  have hta := run_assert (.agg #[.int .i64 x])
  go_wp2
  obtain ⟨w1, hw1⟩ : ∃ w1, w.alloc (Obj.cells #[Value.int IntKind.i64 x] 37) = w1 := ⟨_, rfl⟩
  obtain ⟨g, hg⟩ : ∃ g, w.heap.size = g := ⟨_, rfl⟩
  have hcl : c < w.heap.size := blk_lt hc2
  have hel : e < w.heap.size := blk_lt he
  have bg : w1.heap[g]? = some (.cells #[Value.int IntKind.i64 x] 37 (0, 0)) := by rw [← hw1, ← hg]; exact Array.getElem?_push_size (xs := w.heap)
  have bc : w1.heap[c]? = some (.cells cs0 24 (0, 0)) := by rw [← hw1, Below.heap_alloc _ _ _ hcl]; exact hc2
  have be : w1.heap[e]? = some (.cells #[y] 25 (0, 0)) := by rw [← hw1, Below.heap_alloc _ _ _ hel]; exact he
  have hgc : g ≠ c := by omega
  have hge : g ≠ e := by omega
  have l0 : w1.cell? ⟨g, 0, none⟩ = some (.int .i64 x) := by rw [cell_of_row _ g 0 _ _ _ bg]; rfl
  have l2 : w1.cell? ⟨e, 0, none⟩ = some y := by rw [cell_of_row _ e 0 _ _ _ be]; rfl
  have l3 : w1.frozen? ⟨e, 0, none⟩ = false := blk_frozen be _
  have f0 : ∀ i, w1.frozen? ⟨c, i, none⟩ = false := fun i => blk_frozen bc _
  obtain ⟨v0, v1, v2, v3, v4, v5, rfl⟩ : ∃ v0 v1 v2 v3 v4 v5, cs0 = #[v0, v1, v2, v3, v4, v5] := six cs0 hc
  have k0 : w1.cell? ⟨c, 0, none⟩ = some v0 := by rw [cell_of_row _ c 0 _ _ _ bc]; rfl
  have k1 : w1.cell? ⟨c, 1, none⟩ = some v1 := by rw [cell_of_row _ c 1 _ _ _ bc]; rfl
  have k2 : w1.cell? ⟨c, 2, none⟩ = some v2 := by rw [cell_of_row _ c 2 _ _ _ bc]; rfl
  have k3 : w1.cell? ⟨c, 3, none⟩ = some v3 := by rw [cell_of_row _ c 3 _ _ _ bc]; rfl
  have k4 : w1.cell? ⟨c, 4, none⟩ = some v4 := by rw [cell_of_row _ c 4 _ _ _ bc]; rfl
  have k5 : w1.cell? ⟨c, 5, none⟩ = some v5 := by rw [cell_of_row _ c 5 _ _ _ bc]; rfl
  have hb := Aside0.mk (show Below w.heap.size w w1 by rw [← hw1]; exact (Below.refl _ _).alloc (Nat.le_refl _) _)
  rw [hw1, hg]
  have bc' := Aside0.mk bc
  have be' := Aside0.mk be
  have hgc' : ¬ c = g := fun h => hgc h.symm
  have hge' : ¬ e = g := fun h => hge h.symm
  have hne' : ¬ e = c := fun h => hne h.symm
  clear hw1 bg bc be hc2 he hcl hel hta hc
  go_region
  try simp only [Exit.inBlock]
  rw [← hQ'.out]
  refine ⟨rfl, _, rfl, _, results_none rfl _ _ _, rfl, rfl, ?_⟩
  have r0 : Res c e #[v0, v1, v2, v3, v4, v5] y w w1 := ⟨hb.out.os, hb.out.tape, hb.out.output, hb.out.size, fun k hk _ _ => hb.out.block k hk, bc'.out, be'.out⟩
  exact ((((((((r0.put hne 0 _).put hne 1 _).put hne 2 _).put hne 3 _).put hne 4 _).put hne 5 _).putE hne _).drew)
end Go.Proofs.YtifdlbdecjlnaaaDoor.PAll
