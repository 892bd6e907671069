/- Rows of arrays in memory: an element read, an element stored, at any place of a block. -/
import Derived.Test.YtifdlbdecjlnaaaDoorPAllx0
import Derived.Laws.CopyOwn
import Derived.Deep.AppendLies
import Derived.StillTailTactics
namespace Go.Proofs.YtifdlbdecjlnaaaDoor.PAll
open Go.RowKit Go.Proofs.YtifdlbdecjlnaaaDoorW.PrintWords Go.Proofs.YtifdlbdecjlnaaaDoorW.PrintLast Go.Proofs.YtifdlbdecjlnaaaDoorW.PrintMore
section
variable {P : Program}
theorem run_loadVar_at (w : World) (g off : Nat) (t ty : TypeId) (cur : Array Value) (cs : List Value) (fr : Nat × Nat) (d : TypeDesc) (hg : w.heap[g]? = some (.cells cur t fr)) (hcs : ∀ j v, cs[j]? = some v → cur[off + j]? = some v)
    (hu : P.underlying ty = some d) (hd : (match d with | .struct _ | .array _ _ => true | _ => false) = true) (hi : (P.info? ty).map (·.size) = some cs.length) :
    (loadVar ty ⟨g, off, none⟩).run P w = .ok (.agg cs.toArray) w := by
  have hl : (loadCells ⟨g, off, none⟩ cs.length).run P w = .ok cs.toArray w :=
    run_loadCells_list (P := P) w ⟨g, off, none⟩ cs (fun j v hv => by
      have hadd : (⟨g, off, none⟩ : Addr).add j = ⟨g, off + j, none⟩ := by unfold Addr.add; split <;> simp_all
      rw [hadd, cell_of_row w g (off + j) cur t fr hg]
      exact hcs j v hv)
  cases hq : P.info? ty with
  | none => simp [hq] at hi
  | some i =>
    have hs : i.size = cs.length := by simpa [hq] using hi
    have hagg : (isAgg ty).run P w = .ok true w := by
      unfold isAgg
      rw [Sem.run_bind, run_underlying hu w]
      cases d <;> simp_all
    simp [loadVar, Sem.run_bind, hagg, sizeOf, typeInfo, hq, hs, hl]
theorem wpList_load_at {ops : Array Oper} {rest : List Oper} {o : Oper} {a : Act} {w : World} {Q : Exit → Act → World → Prop} (hgd : o.guard = none) (ty : TypeId) (x : Operand) (ho : o.op = .load ty x)
    (g off : Nat) (p : Addr) (hx : a.eval x = .pointer (some p)) (hp : p = ⟨g, off, none⟩) (t : TypeId) (cur : Array Value) (cs : List Value) (fr : Nat × Nat) (d : TypeDesc) (hg : w.heap[g]? = some (.cells cur t fr)) (hcs : ∀ j v, cs[j]? = some v → cur[off + j]? = some v)
    (hu : P.underlying ty = some d) (hd : (match d with | .struct _ | .array _ _ => true | _ => false) = true) (hi : (P.info? ty).map (·.size) = some cs.length)
    (h : wpList P ops Q rest (a.put o.dst (.agg cs.toArray)) w) : wpList P ops Q (o :: rest) a w := by
  subst hp
  refine wpList_plain hgd fun _ hK => ?_
  unfold Oper.wp execOp
  simp only [ho, hx, Instr.loadAt, Instr.sureAddr, Sem.run_bind, Sem.run_pure, Result.andThen_ok, run_loadVar_at w g off t ty cur cs fr d hg hcs hu hd hi]
  exact hK _ _ h
theorem run_storeVar_at (w : World) (g off : Nat) (t ty : TypeId) (cur cells : Array Value) (hg : w.heap[g]? = some (.cells cur t (0, 0))) (hi : (P.info? ty).map (·.size) = some cells.size)
    (ho : off + cells.size ≤ cur.size) (h1 : cells.all (·.oneCell') = true) :
    (storeVar ty ⟨g, off, none⟩ (.agg cells)).run P w = .ok () (w.setRow g (splice cur.toList off cells.toList).toArray) := by
  have := run_storeCells_at (P := P) g off t cells.toList 0 cur w hg (by simp; omega) (fun v hv => (Array.all_eq_true_iff_forall_mem.1 h1) v (by simpa using hv))
  cases hq : P.info? ty with
  | none => simp [hq] at hi
  | some i =>
    have hs : cells.size = i.size := by simp [hq] at hi; omega
    simp [storeVar, sizeOf, typeInfo, hq, Value.cells, hs, this, splice]
theorem wpList_store_at {ops : Array Oper} {rest : List Oper} {o : Oper} {a : Act} {w : World} {Q : Exit → Act → World → Prop} (hgd : o.guard = none) (ty : TypeId) (x y : Operand) (ho : o.op = .store ty x y)
    (g off : Nat) (p : Addr) (cells : Array Value) (hx : a.eval x = .pointer (some p)) (hp : p = ⟨g, off, none⟩) (hy : a.eval y = .agg cells)
    (t : TypeId) (cur : Array Value) (hg : w.heap[g]? = some (.cells cur t (0, 0))) (hi : (P.info? ty).map (·.size) = some cells.size)
    (hold : off + cells.size ≤ cur.size) (h1 : cells.all (·.oneCell') = true)
    (h : wpList P ops Q rest (a.put o.dst undef) (w.setRow g (splice cur.toList off cells.toList).toArray)) : wpList P ops Q (o :: rest) a w := by
  subst hp
  refine wpList_plain hgd fun _ hK => ?_
  unfold Oper.wp execOp
  simp only [ho, hx, hy, Instr.storeAt, Instr.sureAddr, Sem.run_bind, Sem.run_pure, Result.andThen_ok, run_storeVar_at w g off t ty cur cells hg hi hold h1]
  exact hK _ _ h
theorem step_load_at {ops : Array Oper} {o : Oper} {a : Act} {w : World} {K : Act → World → Prop} {Q : Exit → Act → World → Prop} {E : Prop} (hgd : o.guard = none) (ty : TypeId) (x : Operand) (ho : o.op = .load ty x)
    (g off : Nat) (p : Addr) (hx : a.eval x = .pointer (some p)) (hp : p = ⟨g, off, none⟩) (t : TypeId) (cur : Array Value) (cs : List Value) (fr : Nat × Nat) (d : TypeDesc) (hg : w.heap[g]? = some (.cells cur t fr)) (hcs : ∀ j v, cs[j]? = some v → cur[off + j]? = some v)
    (hu : P.underlying ty = some d) (hd : (match d with | .struct _ | .array _ _ => true | _ => false) = true) (hi : (P.info? ty).map (·.size) = some cs.length)
    (h : K (a.put o.dst (.agg cs.toArray)) w) : if Region.wanted o (yielded ops a.tmps) = true then Oper.wp P o a w K Q else E := by
  rw [if_pos (by simp [Region.wanted, hgd])]
  subst hp
  unfold Oper.wp execOp
  simp only [ho, hx, Instr.loadAt, Instr.sureAddr, Sem.run_bind, Sem.run_pure, Result.andThen_ok, run_loadVar_at w g off t ty cur cs fr d hg hcs hu hd hi]
  exact h
theorem step_store_at {ops : Array Oper} {o : Oper} {a : Act} {w : World} {K : Act → World → Prop} {Q : Exit → Act → World → Prop} {E : Prop} (hgd : o.guard = none) (ty : TypeId) (x y : Operand) (ho : o.op = .store ty x y)
    (g off : Nat) (p : Addr) (cells : Array Value) (hx : a.eval x = .pointer (some p)) (hp : p = ⟨g, off, none⟩) (hy : a.eval y = .agg cells)
    (t : TypeId) (cur : Array Value) (hg : w.heap[g]? = some (.cells cur t (0, 0))) (hi : (P.info? ty).map (·.size) = some cells.size)
    (hold : off + cells.size ≤ cur.size) (h1 : cells.all (·.oneCell') = true)
    (h : K (a.put o.dst undef) (w.setRow g (splice cur.toList off cells.toList).toArray)) : if Region.wanted o (yielded ops a.tmps) = true then Oper.wp P o a w K Q else E := by
  rw [if_pos (by simp [Region.wanted, hgd])]
  subst hp
  unfold Oper.wp execOp
  simp only [ho, hx, hy, Instr.storeAt, Instr.sureAddr, Sem.run_bind, Sem.run_pure, Result.andThen_ok, run_storeVar_at w g off t ty cur cells hg hi hold h1]
  exact h
theorem run_clear_row (w : World) (ty ty2 e : TypeId) (hu : P.underlying ty = some (.slice e)) (z : Value) (i : TypeInfo) (hi : P.info? e = some i) (hz : i.zero = some z) (h1 : z.cells.all (·.oneCell') = true) (g n c : Nat) (cur : Array Value) (t : TypeId) (hg : w.heap[g]? = some (.cells cur t (0, 0))) (hs : 0 < z.cells.size) (hfit : n * z.cells.size ≤ cur.size) :
    ∃ zs : List Value, zs.length = n * z.cells.size ∧ (Builtin.clear_ #[ty] ty2 #[.slice (some ⟨g, 0, none⟩) n c]).run P w = .ok (.tuple #[]) (w.setRow g (splice cur.toList 0 zs).toArray) := by
  cases n with
  | zero =>
    refine ⟨[], by simp, ?_⟩
    rw [show (splice cur.toList 0 ([] : List Value)).toArray = cur by simp [splice], setRow_self w g cur t (0, 0) hg]
    simp [Builtin.clear_, run_underlying hu w]
  | succ n =>
    refine ⟨(Builtin.zeroCells z.cells (n + 1)).toList, by rw [Array.length_toList, size_zeroCells], ?_⟩
    have hz0 : (zeroValue e).run P w = .ok z w := by simp [zeroValue, typeInfo, hi, hz]
    have hst := run_storeCells_at (P := P) g 0 t (Builtin.zeroCells z.cells (n + 1)).toList 0 cur w hg (by rw [Array.length_toList, size_zeroCells]; omega) (fun v hv => by
      rw [Array.mem_toList_iff, Builtin.zeroCells, Array.mem_map] at hv
      obtain ⟨q, hq, rfl⟩ := hv
      have hlt : q % z.cells.size < z.cells.size := Nat.mod_lt _ hs
      rw [getElem!_pos z.cells _ hlt]
      exact (Array.all_eq_true_iff_forall_mem.1 h1) _ (Array.getElem_mem hlt))
    simp [Builtin.clear_, run_underlying hu w, hz0, hst, splice]
theorem wpList_clear_row {ops : Array Oper} {rest : List Oper} {o : Oper} {a : Act} {w : World} {Q : Exit → Act → World → Prop} (hgd : o.guard = none) (s : Operand) (ty : TypeId)
    (ho : o.op = .call { callee := .builtin .clear, args := #[s], argTypes := #[ty] }) (e : TypeId) (hu : P.underlying ty = some (.slice e)) (z : Value) (i : TypeInfo) (hi : P.info? e = some i) (hz : i.zero = some z) (h1 : z.cells.all (·.oneCell') = true) (hsz : 0 < z.cells.size)
    (A : Option Addr) (n c : Nat) (hs : a.eval s = .slice A n c)
    (g : Nat) (cur : Array Value) (t : TypeId) (hA : (A = none) ∨ (A = some ⟨g, 0, none⟩ ∧ w.heap[g]? = some (.cells cur t (0, 0)) ∧ n * z.cells.size ≤ cur.size))
    (h : ∀ w', (A = none ∧ w' = w) ∨ (A = some ⟨g, 0, none⟩ ∧ ∃ zs : List Value, zs.length = n * z.cells.size ∧ w' = w.setRow g (splice cur.toList 0 zs).toArray) → wpList P ops Q rest (a.put o.dst (.tuple #[])) w') : wpList P ops Q (o :: rest) a w := by
  refine wpList_plain hgd fun K hK => ?_
  rcases hA with rfl | ⟨rfl, hg, hfit⟩
  · have hrun : (Builtin.clear_ #[ty] o.type #[.slice none n c]).run P w = .ok (.tuple #[]) w := by simp [Builtin.clear_, run_underlying hu w]
    unfold Oper.wp
    simp [execOp, ho, resolve, invoke, builtin, hs, hrun, Result.andThen]
    exact hK _ _ (h w (.inl ⟨rfl, rfl⟩))
  · obtain ⟨zs, hzl, hrun⟩ := run_clear_row (P := P) w ty o.type e hu z i hi hz h1 g n c cur t hg hsz hfit
    unfold Oper.wp
    simp [execOp, ho, resolve, invoke, builtin, hs, hrun, Result.andThen]
    exact hK _ _ (h _ (.inr ⟨rfl, zs, hzl, rfl⟩))
theorem wpStill_load_at {ops : Array Oper} {rest : List Oper} {o : Oper} {a : Act} {w : World} {Q : Act → Prop} (hgd : o.guard = none) (ty : TypeId) (x : Operand) (ho : o.op = .load ty x)
    (g off : Nat) (p : Addr) (hx : a.eval x = .pointer (some p)) (hp : p = ⟨g, off, none⟩) (t : TypeId) (cur : Array Value) (cs : List Value) (fr : Nat × Nat) (d : TypeDesc) (hg : w.heap[g]? = some (.cells cur t fr)) (hcs : ∀ j v, cs[j]? = some v → cur[off + j]? = some v)
    (hu : P.underlying ty = some d) (hd : (match d with | .struct _ | .array _ _ => true | _ => false) = true) (hi : (P.info? ty).map (·.size) = some cs.length)
    (h : wpStill P ops w Q rest (a.put o.dst (.agg cs.toArray))) : wpStill P ops w Q (o :: rest) a := by
  subst hp
  refine wpStill_step (fun K hK => ?_)
  have hw : Region.wanted o (yielded ops a.tmps) = true := by simp [Region.wanted, hgd]
  have hrun : (execOp a.eval o).run P w = .ok (.value (.agg cs.toArray)) w := by
    unfold execOp
    simp only [ho, hx, Instr.loadAt, Instr.sureAddr, Sem.run_bind, Sem.run_pure, Result.andThen_ok, run_loadVar_at w g off t ty cur cs fr d hg hcs hu hd hi]
  have hs : o.still P a w K := by
    unfold Oper.still
    rw [hrun, Oper.stillUpon_value]
    exact hK _ h
  first | exact hs | (rw [if_pos hw]; exact hs) | (simp only [hw, if_true]; exact hs)
end
end Go.Proofs.YtifdlbdecjlnaaaDoor.PAll
