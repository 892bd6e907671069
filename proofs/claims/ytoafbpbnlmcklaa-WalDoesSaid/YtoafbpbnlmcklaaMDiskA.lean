/- Texts merged: DiskMem DiskClone DiskRead DiskSync DiskWrite. -/
import Derived.Test.YtoafbpbnlmcklaaPAllx0
import Derived.Laws.CopyOwn
import Derived.Deep.AppendLies
import Derived.StillTailTactics
import Derived.Test.YtoafbpbnlmcklaaPAllx1
namespace Go.Proofs.Ytoafbpbnlmcklaa.PAll
open Go.RowKit Go.Proofs.YtoafbpbnlmcklaaW.PrintWords Go.Proofs.YtoafbpbnlmcklaaW.PrintLast Go.Proofs.YtoafbpbnlmcklaaW.PrintMore
section
variable {P : Program}
theorem run_loadVar_at (w : World) (g off : Nat) (t ty : TypeId) (cur : Array Value) (cs : List Value) (fr : Nat × Nat) (d : TypeDesc) (hg : w.heap[g]? = some (.cells cur t fr)) (hcs : ∀ j v, cs[j]? = some v → cur[off + j]? = some v)
    (hu : P.underlying ty = some d) (hd : (match d with | .struct _ | .array _ _ => true | _ => false) = true) (hi : (P.info? ty).map (·.size) = some cs.length) :
    (loadVar ty ⟨g, off, none⟩).run P w = .ok (.agg cs.toArray) w := by
  have hl : (loadCells ⟨g, off, none⟩ cs.length).run P w = .ok cs.toArray w :=
    run_loadCells_list (P := P) w ⟨g, off, none⟩ cs (fun j v hv => by
      have hadd : (⟨g, off, none⟩ : Addr).add j = ⟨g, off + j, none⟩ := by unfold Addr.add; split <;> simp_all
      rw [hadd, cell_of_row w g (off + j) cur t fr hg]
      exact hcs j v hv)
  cases hq : P.info? ty with
  | none => simp [hq] at hi
  | some i =>
    have hs : i.size = cs.length := by simpa [hq] using hi
    have hagg : (isAgg ty).run P w = .ok true w := by
      unfold isAgg
      rw [Sem.run_bind, run_underlying hu w]
      cases d <;> simp_all
    simp [loadVar, Sem.run_bind, hagg, sizeOf, typeInfo, hq, hs, hl]
theorem wpList_load_at {ops : Array Oper} {rest : List Oper} {o : Oper} {a : Act} {w : World} {Q : Exit → Act → World → Prop} (hgd : o.guard = none) (ty : TypeId) (x : Operand) (ho : o.op = .load ty x)
    (g off : Nat) (p : Addr) (hx : a.eval x = .pointer (some p)) (hp : p = ⟨g, off, none⟩) (t : TypeId) (cur : Array Value) (cs : List Value) (fr : Nat × Nat) (d : TypeDesc) (hg : w.heap[g]? = some (.cells cur t fr)) (hcs : ∀ j v, cs[j]? = some v → cur[off + j]? = some v)
    (hu : P.underlying ty = some d) (hd : (match d with | .struct _ | .array _ _ => true | _ => false) = true) (hi : (P.info? ty).map (·.size) = some cs.length)
    (h : wpList P ops Q rest (a.put o.dst (.agg cs.toArray)) w) : wpList P ops Q (o :: rest) a w := by
  subst hp
  refine wpList_plain hgd fun _ hK => ?_
  unfold Oper.wp execOp
  simp only [ho, hx, Instr.loadAt, Instr.sureAddr, Sem.run_bind, Sem.run_pure, Result.andThen_ok, run_loadVar_at w g off t ty cur cs fr d hg hcs hu hd hi]
  exact hK _ _ h
theorem run_storeVar_at (w : World) (g off : Nat) (t ty : TypeId) (cur cells : Array Value) (hg : w.heap[g]? = some (.cells cur t (0, 0))) (hi : (P.info? ty).map (·.size) = some cells.size)
    (ho : off + cells.size ≤ cur.size) (h1 : cells.all (·.oneCell') = true) :
    (storeVar ty ⟨g, off, none⟩ (.agg cells)).run P w = .ok () (w.setRow g (splice cur.toList off cells.toList).toArray) := by
  have := run_storeCells_at (P := P) g off t cells.toList 0 cur w hg (by simp; omega) (fun v hv => (Array.all_eq_true_iff_forall_mem.1 h1) v (by simpa using hv))
  cases hq : P.info? ty with
  | none => simp [hq] at hi
  | some i =>
    have hs : cells.size = i.size := by simp [hq] at hi; omega
    simp [storeVar, sizeOf, typeInfo, hq, Value.cells, hs, this, splice]
theorem wpList_store_at {ops : Array Oper} {rest : List Oper} {o : Oper} {a : Act} {w : World} {Q : Exit → Act → World → Prop} (hgd : o.guard = none) (ty : TypeId) (x y : Operand) (ho : o.op = .store ty x y)
    (g off : Nat) (p : Addr) (cells : Array Value) (hx : a.eval x = .pointer (some p)) (hp : p = ⟨g, off, none⟩) (hy : a.eval y = .agg cells)
    (t : TypeId) (cur : Array Value) (hg : w.heap[g]? = some (.cells cur t (0, 0))) (hi : (P.info? ty).map (·.size) = some cells.size)
    (hold : off + cells.size ≤ cur.size) (h1 : cells.all (·.oneCell') = true)
    (h : wpList P ops Q rest (a.put o.dst undef) (w.setRow g (splice cur.toList off cells.toList).toArray)) : wpList P ops Q (o :: rest) a w := by
  subst hp
  refine wpList_plain hgd fun _ hK => ?_
  unfold Oper.wp execOp
  simp only [ho, hx, hy, Instr.storeAt, Instr.sureAddr, Sem.run_bind, Sem.run_pure, Result.andThen_ok, run_storeVar_at w g off t ty cur cells hg hi hold h1]
  exact hK _ _ h
theorem step_load_at {ops : Array Oper} {o : Oper} {a : Act} {w : World} {K : Act → World → Prop} {Q : Exit → Act → World → Prop} {E : Prop} (hgd : o.guard = none) (ty : TypeId) (x : Operand) (ho : o.op = .load ty x)
    (g off : Nat) (p : Addr) (hx : a.eval x = .pointer (some p)) (hp : p = ⟨g, off, none⟩) (t : TypeId) (cur : Array Value) (cs : List Value) (fr : Nat × Nat) (d : TypeDesc) (hg : w.heap[g]? = some (.cells cur t fr)) (hcs : ∀ j v, cs[j]? = some v → cur[off + j]? = some v)
    (hu : P.underlying ty = some d) (hd : (match d with | .struct _ | .array _ _ => true | _ => false) = true) (hi : (P.info? ty).map (·.size) = some cs.length)
    (h : K (a.put o.dst (.agg cs.toArray)) w) : if Region.wanted o (yielded ops a.tmps) = true then Oper.wp P o a w K Q else E := by
  rw [if_pos (by simp [Region.wanted, hgd])]
  subst hp
  unfold Oper.wp execOp
  simp only [ho, hx, Instr.loadAt, Instr.sureAddr, Sem.run_bind, Sem.run_pure, Result.andThen_ok, run_loadVar_at w g off t ty cur cs fr d hg hcs hu hd hi]
  exact h
theorem step_store_at {ops : Array Oper} {o : Oper} {a : Act} {w : World} {K : Act → World → Prop} {Q : Exit → Act → World → Prop} {E : Prop} (hgd : o.guard = none) (ty : TypeId) (x y : Operand) (ho : o.op = .store ty x y)
    (g off : Nat) (p : Addr) (cells : Array Value) (hx : a.eval x = .pointer (some p)) (hp : p = ⟨g, off, none⟩) (hy : a.eval y = .agg cells)
    (t : TypeId) (cur : Array Value) (hg : w.heap[g]? = some (.cells cur t (0, 0))) (hi : (P.info? ty).map (·.size) = some cells.size)
    (hold : off + cells.size ≤ cur.size) (h1 : cells.all (·.oneCell') = true)
    (h : K (a.put o.dst undef) (w.setRow g (splice cur.toList off cells.toList).toArray)) : if Region.wanted o (yielded ops a.tmps) = true then Oper.wp P o a w K Q else E := by
  rw [if_pos (by simp [Region.wanted, hgd])]
  subst hp
  unfold Oper.wp execOp
  simp only [ho, hx, hy, Instr.storeAt, Instr.sureAddr, Sem.run_bind, Sem.run_pure, Result.andThen_ok, run_storeVar_at w g off t ty cur cells hg hi hold h1]
  exact h
theorem run_clear_row (w : World) (ty ty2 e : TypeId) (hu : P.underlying ty = some (.slice e)) (z : Value) (i : TypeInfo) (hi : P.info? e = some i) (hz : i.zero = some z) (h1 : z.cells.all (·.oneCell') = true) (g n c : Nat) (cur : Array Value) (t : TypeId) (hg : w.heap[g]? = some (.cells cur t (0, 0))) (hs : 0 < z.cells.size) (hfit : n * z.cells.size ≤ cur.size) :
    ∃ zs : List Value, zs.length = n * z.cells.size ∧ (Builtin.clear_ #[ty] ty2 #[.slice (some ⟨g, 0, none⟩) n c]).run P w = .ok (.tuple #[]) (w.setRow g (splice cur.toList 0 zs).toArray) := by
  cases n with
  | zero =>
    refine ⟨[], by simp, ?_⟩
    rw [show (splice cur.toList 0 ([] : List Value)).toArray = cur by simp [splice], setRow_self w g cur t (0, 0) hg]
    simp [Builtin.clear_, run_underlying hu w]
  | succ n =>
    refine ⟨(Builtin.zeroCells z.cells (n + 1)).toList, by rw [Array.length_toList, size_zeroCells], ?_⟩
    have hz0 : (zeroValue e).run P w = .ok z w := by simp [zeroValue, typeInfo, hi, hz]
    have hst := run_storeCells_at (P := P) g 0 t (Builtin.zeroCells z.cells (n + 1)).toList 0 cur w hg (by rw [Array.length_toList, size_zeroCells]; omega) (fun v hv => by
      rw [Array.mem_toList_iff, Builtin.zeroCells, Array.mem_map] at hv
      obtain ⟨q, hq, rfl⟩ := hv
      have hlt : q % z.cells.size < z.cells.size := Nat.mod_lt _ hs
      rw [getElem!_pos z.cells _ hlt]
      exact (Array.all_eq_true_iff_forall_mem.1 h1) _ (Array.getElem_mem hlt))
    simp [Builtin.clear_, run_underlying hu w, hz0, hst, splice]
theorem wpList_clear_row {ops : Array Oper} {rest : List Oper} {o : Oper} {a : Act} {w : World} {Q : Exit → Act → World → Prop} (hgd : o.guard = none) (s : Operand) (ty : TypeId)
    (ho : o.op = .call { callee := .builtin .clear, args := #[s], argTypes := #[ty] }) (e : TypeId) (hu : P.underlying ty = some (.slice e)) (z : Value) (i : TypeInfo) (hi : P.info? e = some i) (hz : i.zero = some z) (h1 : z.cells.all (·.oneCell') = true) (hsz : 0 < z.cells.size)
    (A : Option Addr) (n c : Nat) (hs : a.eval s = .slice A n c)
    (g : Nat) (cur : Array Value) (t : TypeId) (hA : (A = none) ∨ (A = some ⟨g, 0, none⟩ ∧ w.heap[g]? = some (.cells cur t (0, 0)) ∧ n * z.cells.size ≤ cur.size))
    (h : ∀ w', (A = none ∧ w' = w) ∨ (A = some ⟨g, 0, none⟩ ∧ ∃ zs : List Value, zs.length = n * z.cells.size ∧ w' = w.setRow g (splice cur.toList 0 zs).toArray) → wpList P ops Q rest (a.put o.dst (.tuple #[])) w') : wpList P ops Q (o :: rest) a w := by
  refine wpList_plain hgd fun K hK => ?_
  rcases hA with rfl | ⟨rfl, hg, hfit⟩
  · have hrun : (Builtin.clear_ #[ty] o.type #[.slice none n c]).run P w = .ok (.tuple #[]) w := by simp [Builtin.clear_, run_underlying hu w]
    unfold Oper.wp
    simp [execOp, ho, resolve, invoke, builtin, hs, hrun, Result.andThen]
    exact hK _ _ (h w (.inl ⟨rfl, rfl⟩))
  · obtain ⟨zs, hzl, hrun⟩ := run_clear_row (P := P) w ty o.type e hu z i hi hz h1 g n c cur t hg hsz hfit
    unfold Oper.wp
    simp [execOp, ho, resolve, invoke, builtin, hs, hrun, Result.andThen]
    exact hK _ _ (h _ (.inr ⟨rfl, zs, hzl, rfl⟩))
theorem wpStill_load_at {ops : Array Oper} {rest : List Oper} {o : Oper} {a : Act} {w : World} {Q : Act → Prop} (hgd : o.guard = none) (ty : TypeId) (x : Operand) (ho : o.op = .load ty x)
    (g off : Nat) (p : Addr) (hx : a.eval x = .pointer (some p)) (hp : p = ⟨g, off, none⟩) (t : TypeId) (cur : Array Value) (cs : List Value) (fr : Nat × Nat) (d : TypeDesc) (hg : w.heap[g]? = some (.cells cur t fr)) (hcs : ∀ j v, cs[j]? = some v → cur[off + j]? = some v)
    (hu : P.underlying ty = some d) (hd : (match d with | .struct _ | .array _ _ => true | _ => false) = true) (hi : (P.info? ty).map (·.size) = some cs.length)
    (h : wpStill P ops w Q rest (a.put o.dst (.agg cs.toArray))) : wpStill P ops w Q (o :: rest) a := by
  subst hp
  refine wpStill_step (fun K hK => ?_)
  have hw : Region.wanted o (yielded ops a.tmps) = true := by simp [Region.wanted, hgd]
  have hrun : (execOp a.eval o).run P w = .ok (.value (.agg cs.toArray)) w := by
    unfold execOp
    simp only [ho, hx, Instr.loadAt, Instr.sureAddr, Sem.run_bind, Sem.run_pure, Result.andThen_ok, run_loadVar_at w g off t ty cur cs fr d hg hcs hu hd hi]
  have hs : o.still P a w K := by
    unfold Oper.still
    rw [hrun, Oper.stillUpon_value]
    exact hK _ h
  first | exact hs | (rw [if_pos hw]; exact hs) | (simp only [hw, if_true]; exact hs)
end
end Go.Proofs.Ytoafbpbnlmcklaa.PAll


namespace Go.Proofs.Ytoafbpbnlmcklaa.PAll
open Go.RowKit Go.Proofs.YtoafbpbnlmcklaaW.PrintWords Go.Proofs.YtoafbpbnlmcklaaW.PrintLast Go.Proofs.YtoafbpbnlmcklaaW.PrintMore
set_option linter.unusedVariables false
set_option linter.unusedSimpArgs false
/-- A sector's cells, and those of a write that waits. -/
def secC (s : List Int) : List Value := s.map (Value.int .u8)
def wrC (p : Int × List Int) : List Value := .int .i64 p.1 :: secC p.2
theorem secC_len (s : List Int) : (secC s).length = s.length := List.length_map _
/-- A block that begins with so many elements of one size: element i's cells. -/
def RowAt {α : Type} (enc : α → List Value) (size : Nat) (e : TypeId) (g : Nat) (xs : List α) (w : World) : Prop :=
  ∃ cur, w.heap[g]? = some (.cells cur e (0, 0)) ∧ xs.length * size ≤ cur.size ∧ ∀ i x, xs[i]? = some x → (enc x).length = size ∧ ∀ j v, (enc x)[j]? = some v → cur[i * size + j]? = some v
/-- The disk at D: sectors at block gS, those that wait at A, where cW fit. -/
def DiskAt (base D gS : Nat) (A : Option Addr) (cW : Nat) (S : List (List Int)) (W : List (Int × List Int)) (w : World) : Prop :=
  w.heap[D]? = some (.cells #[.slice (some ⟨gS, 0, none⟩) S.length S.length, .slice A W.length cW] 64 (0, 0)) ∧ base ≤ D ∧ base ≤ gS ∧ RowAt secC 16 74 gS S w ∧ w.ownsRow base 76 17 (.slice A W.length cW) W.length (W.flatMap wrC)
theorem flat_get {α : Type} {enc : α → List Value} {size : Nat} : ∀ (xs : List α), (∀ x ∈ xs, (enc x).length = size) → ∀ (i : Nat) (x : α), xs[i]? = some x → ∀ (j : Nat) (v : Value), (enc x)[j]? = some v → (xs.flatMap enc)[i * size + j]? = some v
  | [], _, i, x, hx, _, _, _ => by simp at hx
  | y :: xs, hl, i, x, hx, j, v, hv => by
    have hy := hl y (by simp)
    rw [List.flatMap_cons]
    cases i with
    | zero =>
      simp only [List.getElem?_cons_zero, Option.some.injEq] at hx
      subst hx
      have hj : j < (enc y).length := (List.getElem?_eq_some_iff.1 hv).1
      rw [Nat.zero_mul, Nat.zero_add, List.getElem?_append_left hj]
      exact hv
    | succ i =>
      rw [List.getElem?_cons_succ] at hx
      rw [List.getElem?_append_right (by rw [hy, Nat.succ_mul]; omega), hy, show (i + 1) * size + j - size = i * size + j by rw [Nat.succ_mul]; omega]
      exact flat_get xs (fun z hz => hl z (by simp [hz])) i x hx j v hv
theorem wr_row {base cW : Nat} {A : Option Addr} {W : List (Int × List Int)} {w : World} (h : w.ownsRow base 76 17 (.slice A W.length cW) W.length (W.flatMap wrC)) (hl : ∀ p ∈ W, p.2.length = 16) (hn : 0 < W.length) :
    ∃ gW, A = some ⟨gW, 0, none⟩ ∧ base ≤ gW ∧ RowAt wrC 17 76 gW W w := by
  rcases h.2 with ⟨_, h0⟩ | ⟨g, cap, cur, he, hg, hh, hc, _, hs, ht⟩
  · omega
  · injection he with hA _ _
    refine ⟨g, hA, hg, cur, hh, by rw [hs]; exact Nat.mul_le_mul_right _ hc, fun i x hx => ?_⟩
    have hwl : ∀ p ∈ W, (wrC p).length = 17 := fun p hp => by rw [wrC, List.length_cons, secC_len, hl p hp]
    refine ⟨hwl x (List.mem_of_getElem? hx), fun j v hv => ?_⟩
    have h1 := flat_get W hwl i x hx j v hv
    have hj : j < 17 := by rw [← hwl x (List.mem_of_getElem? hx)]; exact (List.getElem?_eq_some_iff.1 hv).1
    have hi : i < W.length := (List.getElem?_eq_some_iff.1 hx).1
    rw [← ht, List.getElem?_take, if_pos (by have := Nat.mul_le_mul_right 17 (Nat.succ_le_of_lt hi); rw [Nat.succ_mul] at this; omega), Array.getElem?_toList] at h1
    exact h1
theorem own_below' {w w' : World} {base e size n : Nat} {v : Value} {xs : List Value} (h : w.ownsRow base e size v n xs) (hb : Below w.heap.size w w') : w'.ownsRow base e size v n xs := by
  refine ⟨h.1, ?_⟩
  rcases h.2 with h0 | ⟨g, cap, cur, he, hg, hh, hc⟩
  · exact .inl h0
  · exact .inr ⟨g, cap, cur, he, hg, blk_below hh hb, hc⟩
/-- What is read of a sector. -/
def readW (i : Int) : List (Int × List Int) → List Int → List Int
  | [], s => s
  | p :: W, s => readW i W (if p.1 = i then p.2 else s)
theorem RowAt.below {α : Type} {enc : α → List Value} {size : Nat} {e : TypeId} {g : Nat} {xs : List α} {w w' : World} (h : RowAt enc size e g xs w) (hb : Below w.heap.size w w') : RowAt enc size e g xs w' := by
  obtain ⟨cur, h1, h2, h3⟩ := h
  exact ⟨cur, blk_below h1 hb, h2, h3⟩
theorem DiskAt.below {base D gS cW : Nat} {A : Option Addr} {S : List (List Int)} {W : List (Int × List Int)} {w w' : World} (h : DiskAt base D gS A cW S W w) (hb : Below w.heap.size w w') : DiskAt base D gS A cW S W w' :=
  ⟨blk_below h.1 hb, h.2.1, h.2.2.1, h.2.2.2.1.below hb, own_below' h.2.2.2.2 hb⟩
theorem secC_all (s : List Int) : (secC s).toArray.all (·.oneCell') = true := by
  rw [Array.all_eq_true_iff_forall_mem]
  intro x hx
  simp only [List.mem_toArray, secC, List.mem_map] at hx
  obtain ⟨y, -, rfl⟩ := hx
  rfl
theorem wrC_all (p : Int × List Int) : (wrC p).toArray.all (·.oneCell') = true := by
  rw [Array.all_eq_true_iff_forall_mem]
  intro x hx
  simp only [wrC, secC, List.mem_toArray, List.mem_cons, List.mem_map] at hx
  rcases hx with rfl | ⟨y, -, rfl⟩ <;> rfl
theorem bset {B g : Nat} {w0 w : World} (hb : Below B w0 w) (hBg : B ≤ g) (cs : Array Value) : Below B w0 (w.setRow g cs) :=
  ⟨hb.os, hb.tape, hb.output, Nat.le_trans hb.size (Nat.le_of_eq (size_setRow _ _ _).symm), fun b hlt => (setRow_other w g b cs (by omega)).trans (hb.block b hlt)⟩
set_option maxHeartbeats 1000000 in
set_option maxRecDepth 100000 in
theorem read_no (base D gS cW : Nat) (A : Option Addr) (S : List (List Int)) (W : List (Int × List Int)) (i : Int) (w : World) (h : DiskAt base D gS A cW S W w) (hi : (decide (i ≥ 0) = false) ∨ (decide (i ≥ 0) = true ∧ decide (i < (S.length : Int)) = false)) :
    Calls Try.prog 14 #[.pointer (some ⟨D, 0, none⟩), .int .i64 i] w fun x w' => x = .returned (.tuple #[.slice none 0 0, .int .i64 1]) ∧ w' = w := by
  have q0 : w.cell? ⟨D, 0, none⟩ = some (.slice (some ⟨gS, 0, none⟩) S.length S.length) := (blk_cell h.1 0).trans rfl
  clear h
  rcases hi with hi | ⟨hi, hj⟩
  all_goals
    go_enter Try.func14, Try.ntmps14
    go_wp2
    go_ret2
    exact ⟨rfl, rfl⟩
theorem readW_len (i : Int) : ∀ (W : List (Int × List Int)) (s : List Int), s.length = 16 → (∀ p ∈ W, p.2.length = 16) → (readW i W s).length = 16
  | [], s, hs, _ => hs
  | p :: W, s, hs, hr => by
    rw [readW]
    refine readW_len i W _ ?_ (fun q hq => hr q (by simp [hq]))
    split
    · exact hr p (by simp)
    · exact hs
theorem readC_size (i : Int) {W : List (Int × List Int)} {s : List Int} (hs : s.length = 16) (hr : ∀ p ∈ W, p.2.length = 16) (j : Nat) : (secC (readW i (W.take j) s)).toArray.size = 16 := by
  rw [List.size_toArray, secC_len]
  exact readW_len i _ s hs (fun p hp => hr p (List.mem_of_mem_take hp))
theorem readW_append (i : Int) (p : Int × List Int) : ∀ (W : List (Int × List Int)) (s : List Int), readW i (W ++ [p]) s = if p.1 = i then p.2 else readW i W s
  | [], s => rfl
  | q :: W, s => by rw [List.cons_append, readW, readW_append i p W, readW]
theorem readW_step (i : Int) {W : List (Int × List Int)} {j : Nat} {p : Int × List Int} (hp : W[j]? = some p) (s : List Int) : readW i (W.take (j + 1)) s = if p.1 = i then p.2 else readW i (W.take j) s := by
  rw [List.take_add_one, hp, Option.toList_some, readW_append]
theorem wr_tail (p : Int × List Int) (j : Nat) (v : Value) (hv : (secC p.2)[j]? = some v) : (wrC p).toArray[1 + j]? = some v := by
  rw [Nat.add_comm, List.getElem?_toArray]
  exact hv
theorem add_zero_at (g j : Nat) : (⟨g, 0, none⟩ : Addr).add j = ⟨g, j, none⟩ := by
  unfold Addr.add
  split <;> simp_all
theorem secC_C {w : World} {g : Nat} {e : TypeId} {l : List Int} (h : w.heap[g]? = some (.cells (secC l).toArray e (0, 0))) (hl : l.length = 16) : Kd.C (Kd.int .u8) w (some ⟨g, 0, none⟩) l.length l := by
  refine ⟨rfl, by omega, fun _ => ⟨⟨g, 0, none⟩, rfl, fun j p hp => ⟨[.int .u8 p], rfl, rfl, fun i u hu => ?_⟩⟩⟩
  cases i with
  | succ i => simp at hu
  | zero =>
    simp only [List.getElem?_cons_zero, Option.some.injEq] at hu
    subst hu
    rw [add_zero_at, cell_of_row w g _ _ _ _ h, List.getElem?_toArray]
    show (secC l)[j * 1 + 0]? = _
    rw [Nat.mul_one, Nat.add_zero, secC, List.getElem?_map, hp]
    rfl
theorem widx {i : Nat} (h : i < 1099511627776) : wrap64 ((i : Int) + 1) = ((i + 1 : Nat) : Int) := by unfold wrap64; omega
set_option maxHeartbeats 2000000 in
set_option maxRecDepth 100000 in
theorem read_yes (base D gS cW : Nat) (A : Option Addr) (S : List (List Int)) (W : List (Int × List Int)) (i : Int) (s : List Int) (w : World) (h : DiskAt base D gS A cW S W w) (hi : decide (i ≥ 0) = true) (hj : decide (i < (S.length : Int)) = true) (hs : S[i.toNat]? = some s) (hl : s.length = 16) (hn : W.length < 1099511627776) (hr : ∀ p ∈ W, p.2.length = 16) :
    Calls Try.prog 14 #[.pointer (some ⟨D, 0, none⟩), .int .i64 i] w fun x w' => ∃ v, x = .returned (.tuple #[v, .int .i64 0]) ∧ Kd.R (Kd.int .u8) 5 w' w.heap.size (fun _ => True) v (readW i W s) ∧ Below w.heap.size w w' := by
  have q0 : w.cell? ⟨D, 0, none⟩ = some (.slice (some ⟨gS, 0, none⟩) S.length S.length) := (blk_cell h.1 0).trans rfl
  have q1 : w.cell? ⟨D, 1, none⟩ = some (.slice A W.length cW) := (blk_cell h.1 1).trans rfl
  obtain ⟨cS, hcS, _, hS⟩ := h.2.2.2.1
  have HS := Aside0.mk (hS i.toNat s hs).2
  have HSl := Aside0.mk (hS i.toNat s hs).1
  have HcS := Aside0.mk hcS
  have H := Aside0.mk h
  have HR := Aside0.mk hr
  have HWn := Aside0.mk hn
  have HRl := Aside0.mk (fun j => readC_size i hl hr j)
  clear h hcS hS hs hr hl hn
  have i0 : 0 ≤ i := of_decide_eq_true hi
  have i1 : i < (S.length : Int) := of_decide_eq_true hj
  replace i0 := eq_true i0
  replace i1 := eq_true i1
  go_enter Try.func14, Try.ntmps14
  have hi16 : (Try.prog.info? 74).map (·.size) = some (secC s).length := by rw [HSl.out]; kernel_rfl
  have HI := Aside0.mk hi16
  clear hi16
  have HZ := Aside0.mk (show (secC s).toArray.size = 16 by rw [List.size_toArray]; exact HSl.out)
  go_wp2_with (first | (go_at_call 36; go_in) | ((with_reducible refine gate_ (.load 74 (.tmp 18)) rfl ?_); refine wpList_load_at rfl 74 (.tmp 18) rfl gS (i.toNat * 16) ⟨gS, i.toNat * 16, none⟩ rfl rfl 74 cS (secC s) (0, 0) _ HcS.out HS.out Try.underlying74 rfl HI.out ?_) | ((with_reducible refine gate_store (t := 74) (p := 6) rfl ?_); refine wpList_store_row rfl 74 _ _ rfl w.heap.size _ rfl rfl 74 _ (blk_new w _) (by rw [HZ.out]; kernel_rfl) (by rw [HZ.out]; rfl) (secC_all s) ?_; obtain ⟨w1, hw1⟩ : ∃ w1, w1 = (w.alloc (.cells #[.int .u8 0, .int .u8 0, .int .u8 0, .int .u8 0, .int .u8 0, .int .u8 0, .int .u8 0, .int .u8 0, .int .u8 0, .int .u8 0, .int .u8 0, .int .u8 0, .int .u8 0, .int .u8 0, .int .u8 0, .int .u8 0] 74)).setRow w.heap.size (secC s).toArray := ⟨_, rfl⟩; rw [← hw1]; have HB1 := Aside0.mk (show Below w.heap.size w w1 by rw [hw1]; exact bset (below_alloc (Below.refl _ _) _) (Nat.le_refl _) _); have HC1 := Aside0.mk (show w1.heap[w.heap.size]? = some (.cells (secC s).toArray 74 (0, 0)) by rw [hw1]; exact setRow_heap _ _ _ _ _ _ (blk_new w _)); clear hw1; have q1 : w1.cell? ⟨D, 1, none⟩ = some (.slice A W.length cW) := (blk_cell (H.out.below HB1.out).1 1).trans rfl))
  go_loopg [25] W.length (fun kq v25 w' => ∃ j : Nat, v25 = .int .i64 (j : Int) ∧ Aside0 (j + kq = W.length) ∧ Aside0 (w'.heap[w.heap.size]? = some (.cells (secC (readW i (W.take j) s)).toArray 74 (0, 0))) ∧ Aside0 (Below w.heap.size w w'))
  case atStart => exact ⟨0, rfl, ⟨by omega⟩, ⟨HC1.out⟩, HB1⟩
  case round =>
    obtain ⟨j, rfl, HJ, HCw, HBw⟩ := hrel
    have HWl := Aside0.mk (H.out.below HBw.out)
    by_cases hlt : j < W.length
    · obtain ⟨p, hp⟩ : ∃ p, W[j]? = some p := ⟨_, List.getElem?_eq_getElem hlt⟩
      obtain ⟨gW, eA, _, cWr, hcW, _, hrow⟩ := wr_row HWl.out.2.2.2.2 HR.out (by omega)
      subst eA
      have HcW := Aside0.mk hcW
      have HP := Aside0.mk (hrow j p hp).2
      have HPl := Aside0.mk (hrow j p hp).1
      have HPz := Aside0.mk (show (wrC p).toArray.size = 17 by rw [List.size_toArray]; exact HPl.out)
      have HPi := Aside0.mk (show (Try.prog.info? 76).map (·.size) = some (wrC p).length by rw [HPl.out]; kernel_rfl)
      have HP16 := Aside0.mk (show (secC p.2).length = 16 by rw [secC_len]; exact HR.out p (List.mem_of_getElem? hp))
      have HPs := Aside0.mk (show (secC p.2).toArray.size = 16 by rw [List.size_toArray]; exact HP16.out)
      have HPj := Aside0.mk (show (Try.prog.info? 74).map (·.size) = some (secC p.2).length by rw [HP16.out]; kernel_rfl)
      have HQ := Aside0.mk hp
      have p1 : decide ((j : Int) < (W.length : Int)) = true := decide_eq_true (by omega)
      have p2 := eq_true (show 0 ≤ (j : Int) by omega)
      have p3 := eq_true (show (j : Int) < (W.length : Int) by omega)
      have HLT := Aside0.mk hlt
      clear hcW hrow hp hlt q0 q1 hi hj
      by_cases c : p.1 = i
      · have cb : (p.1 == i) = true := beq_iff_eq.mpr c
        have HE := Aside0.mk c
        clear c
        go_wp2_with (first | ((with_reducible refine gate_ (.load 76 (.tmp 27)) rfl ?_); refine wpList_load_at rfl 76 (.tmp 27) rfl gW (j * 17) ⟨gW, j * 17, none⟩ rfl rfl 76 cWr (wrC p) (0, 0) _ HcW.out HP.out Try.underlying76 rfl HPi.out ?_) | ((with_reducible refine gate_store (t := 76) (p := 8) rfl ?_); refine wpList_store_row rfl 76 _ _ rfl wr.heap.size _ rfl rfl 76 _ (blk_new wr _) (by rw [HPz.out]; kernel_rfl) (by rw [HPz.out]; rfl) (wrC_all p) ?_; obtain ⟨w2, hw2⟩ : ∃ w2, w2 = (wr.alloc (.cells #[.int .i64 0, .int .u8 0, .int .u8 0, .int .u8 0, .int .u8 0, .int .u8 0, .int .u8 0, .int .u8 0, .int .u8 0, .int .u8 0, .int .u8 0, .int .u8 0, .int .u8 0, .int .u8 0, .int .u8 0, .int .u8 0, .int .u8 0] 76)).setRow wr.heap.size (wrC p).toArray := ⟨_, rfl⟩; rw [← hw2]; have HB2 := Aside0.mk (show Below wr.heap.size wr w2 by rw [hw2]; exact bset (below_alloc (Below.refl _ _) _) (Nat.le_refl _) _); have HC2 := Aside0.mk (show w2.heap[wr.heap.size]? = some (.cells (wrC p).toArray 76 (0, 0)) by rw [hw2]; exact setRow_heap _ _ _ _ _ _ (blk_new wr _)); clear hw2; have q2 : w2.cell? ⟨wr.heap.size, 0, none⟩ = some (.int .i64 p.1) := (blk_cell HC2.out 0).trans rfl; have HB2w := Aside0.mk (below_then HBw.out HBw.out.size HB2.out); have HCs := Aside0.mk (blk_below HCw.out HB2.out)) | ((with_reducible refine gate_ (.load 74 (.tmp 33)) rfl ?_); refine wpList_load_at rfl 74 (.tmp 33) rfl wr.heap.size 1 ⟨wr.heap.size, 1, none⟩ rfl rfl 76 (wrC p).toArray (secC p.2) (0, 0) _ HC2.out (wr_tail p) Try.underlying74 rfl HPj.out ?_) | ((with_reducible refine gate_store (t := 74) (p := 6) rfl ?_); refine wpList_store_row rfl 74 _ _ rfl w.heap.size _ rfl rfl 74 _ HCs.out (by rw [HPs.out]; kernel_rfl) (by rw [HPs.out]; exact HRl.out j) (secC_all p.2) ?_))
        obtain ⟨k1, rfl⟩ : ∃ k1, gk = k1 + 1 := ⟨gk - 1, by have := HJ.out; have := HLT.out; omega⟩
        go_roundg k1
        case measure => omega
        case rel =>
          refine ⟨j + 1, ?_, ⟨by have := HJ.out; omega⟩, ⟨?_⟩, ?_⟩
          · exact congrArg (Value.int .i64) (widx (by have := HLT.out; have := HWn.out; omega))
          · rw [readW_step i HQ.out s, if_pos HE.out]
            exact setRow_heap _ _ _ _ _ _ HCs.out
          · exact ⟨bset HB2w.out (Nat.le_refl _) _⟩
      · have cb : (p.1 == i) = false := beq_eq_false_iff_ne.mpr c
        have HE := Aside0.mk c
        clear c
        go_wp2_with (first | ((with_reducible refine gate_ (.load 76 (.tmp 27)) rfl ?_); refine wpList_load_at rfl 76 (.tmp 27) rfl gW (j * 17) ⟨gW, j * 17, none⟩ rfl rfl 76 cWr (wrC p) (0, 0) _ HcW.out HP.out Try.underlying76 rfl HPi.out ?_) | ((with_reducible refine gate_store (t := 76) (p := 8) rfl ?_); refine wpList_store_row rfl 76 _ _ rfl wr.heap.size _ rfl rfl 76 _ (blk_new wr _) (by rw [HPz.out]; kernel_rfl) (by rw [HPz.out]; rfl) (wrC_all p) ?_; obtain ⟨w2, hw2⟩ : ∃ w2, w2 = (wr.alloc (.cells #[.int .i64 0, .int .u8 0, .int .u8 0, .int .u8 0, .int .u8 0, .int .u8 0, .int .u8 0, .int .u8 0, .int .u8 0, .int .u8 0, .int .u8 0, .int .u8 0, .int .u8 0, .int .u8 0, .int .u8 0, .int .u8 0, .int .u8 0] 76)).setRow wr.heap.size (wrC p).toArray := ⟨_, rfl⟩; rw [← hw2]; have HB2 := Aside0.mk (show Below wr.heap.size wr w2 by rw [hw2]; exact bset (below_alloc (Below.refl _ _) _) (Nat.le_refl _) _); have HC2 := Aside0.mk (show w2.heap[wr.heap.size]? = some (.cells (wrC p).toArray 76 (0, 0)) by rw [hw2]; exact setRow_heap _ _ _ _ _ _ (blk_new wr _)); clear hw2; have q2 : w2.cell? ⟨wr.heap.size, 0, none⟩ = some (.int .i64 p.1) := (blk_cell HC2.out 0).trans rfl; have HB2w := Aside0.mk (below_then HBw.out HBw.out.size HB2.out); have HCs := Aside0.mk (blk_below HCw.out HB2.out)))
        obtain ⟨k1, rfl⟩ : ∃ k1, gk = k1 + 1 := ⟨gk - 1, by have := HJ.out; have := HLT.out; omega⟩
        go_roundg k1
        case measure => omega
        case rel =>
          refine ⟨j + 1, ?_, ⟨by have := HJ.out; omega⟩, ⟨?_⟩, ?_⟩
          · exact congrArg (Value.int .i64) (widx (by have := HLT.out; have := HWn.out; omega))
          · rw [readW_step i HQ.out s, if_neg HE.out]
            exact HCs.out
          · exact HB2w
    · obtain rfl : j = W.length := by have := HJ.out; omega
      have p1 : decide (((W.length : Nat) : Int) < (W.length : Int)) = false := decide_eq_false (by omega)
      rw [List.take_length] at HCw
      have HRW := Aside0.mk (readW_len i W s (by rw [← secC_len]; exact HSl.out) HR.out)
      clear hlt
      go_wp2_with fail
      have hC : Kd.C (Kd.int .u8) wr (some ⟨w.heap.size, 0, none⟩) (readW i W s).length (readW i W s) := secC_C HCw.out HRW.out
      rw [show (16 : Nat) = (readW i W s).length from HRW.out.symm]
      refine (slices_Clone_byte_byte.calls (some ⟨w.heap.size, 0, none⟩) _ (readW i W s) (readW i W s) wr hC (Nat.le_refl _) (by unfold slices_Clone_byte_byte.f; rw [if_pos (by have := HRW.out; omega)])).mono ?_
      rintro x w3 ⟨v, rfl, ho, hb⟩
      have HO := Aside0.mk (Kd.R_lower ho HBw.out.size)
      have HB3 := Aside0.mk (below_then HBw.out HBw.out.size hb)
      clear ho hb hC
      go_wp2
      go_ret2
      exact ⟨_, rfl, HO.out, HB3.out⟩
end Go.Proofs.Ytoafbpbnlmcklaa.PAll

namespace Go.Proofs.Ytoafbpbnlmcklaa.PAll
open Go.RowKit Go.Proofs.YtoafbpbnlmcklaaW.PrintWords Go.Proofs.YtoafbpbnlmcklaaW.PrintLast Go.Proofs.YtoafbpbnlmcklaaW.PrintMore
set_option linter.unusedVariables false
set_option linter.unusedSimpArgs false
/-- Only the disk's own blocks, and new ones, are other ones. -/
structure Touch (D gS : Nat) (A : Option Addr) (w w' : World) : Prop where
  os : w'.os = w.os
  tape : w'.tape = w.tape
  output : w'.output = w.output
  size : w.heap.size ≤ w'.heap.size
  block : ∀ k, k < w.heap.size → k ≠ D → k ≠ gS → (∀ a, A = some a → k ≠ a.block) → w'.heap[k]? = w.heap[k]?
theorem Touch.refl (D gS : Nat) (A : Option Addr) (w : World) : Touch D gS A w w := ⟨rfl, rfl, rfl, Nat.le_refl _, fun _ _ _ _ _ => rfl⟩
theorem Touch.below {D gS : Nat} {A : Option Addr} {w w' w'' : World} (h : Touch D gS A w w') (hb : Below w'.heap.size w' w'') : Touch D gS A w w'' :=
  ⟨hb.os.trans h.os, hb.tape.trans h.tape, hb.output.trans h.output, Nat.le_trans h.size hb.size, fun k hk h1 h2 h3 => (hb.block k (Nat.lt_of_lt_of_le hk h.size)).trans (h.block k hk h1 h2 h3)⟩
theorem Touch.row {D gS : Nat} {A : Option Addr} {w w' : World} (h : Touch D gS A w w') (cs : Array Value) : Touch D gS A w (w'.setRow gS cs) :=
  ⟨h.os, h.tape, h.output, Nat.le_trans h.size (Nat.le_of_eq (size_setRow _ _ _).symm), fun k hk h1 h2 h3 => (setRow_other w' gS k cs h2).trans (h.block k hk h1 h2 h3)⟩
/-- The sectors behind writes. -/
def applyW (S : List (List Int)) (W : List (Int × List Int)) : List (List Int) := W.foldl (fun S p => S.set p.1.toNat p.2) S
theorem applyW_len (W : List (Int × List Int)) : ∀ S, (applyW S W).length = S.length := by
  induction W with
  | nil => intro S; rfl
  | cons p W ih => intro S; show (applyW (S.set p.1.toNat p.2) W).length = _; rw [ih, List.length_set]
theorem applyW_step {S : List (List Int)} {W : List (Int × List Int)} {j : Nat} {p : Int × List Int} (hp : W[j]? = some p) : applyW S (W.take (j + 1)) = (applyW S (W.take j)).set p.1.toNat p.2 := by
  rw [List.take_add_one, hp, Option.toList_some, applyW, List.foldl_append]
  rfl
theorem RowAt.set {g i : Nat} {S : List (List Int)} {b : List Int} {w : World} {cur : Array Value} (hh : w.heap[g]? = some (.cells cur 74 (0, 0))) (hs : S.length * 16 ≤ cur.size) (hr : ∀ k x, S[k]? = some x → (secC x).length = 16 ∧ ∀ j v, (secC x)[j]? = some v → cur[k * 16 + j]? = some v)
    (hi : i < S.length) (hb : (secC b).length = 16) : RowAt secC 16 74 g (S.set i b) (w.setRow g (splice cur.toList (i * 16) (secC b)).toArray) := by
  have hfit : i * 16 + 16 ≤ cur.size := by omega
  have hl : (splice cur.toList (i * 16) (secC b)).length = cur.size := by rw [length_splice _ _ _ (by rw [hb, Array.length_toList]; exact hfit), Array.length_toList]
  refine ⟨_, setRow_heap _ _ _ _ _ _ hh, by rw [List.length_set, List.size_toArray, hl]; exact hs, fun k x hx => ?_⟩
  have key : ∀ q, (splice cur.toList (i * 16) (secC b)).toArray[q]? = if q < i * 16 then cur[q]? else if q < i * 16 + 16 then (secC b)[q - i * 16]? else cur[q]? := by
    intro q
    rw [List.getElem?_toArray, splice]
    have h1 : (cur.toList.take (i * 16)).length = i * 16 := by rw [List.length_take, Array.length_toList]; omega
    by_cases c : q < i * 16
    · rw [List.getElem?_append_left (by rw [h1]; exact c), List.getElem?_take, if_pos c, if_pos c, Array.getElem?_toList]
    · rw [List.getElem?_append_right (by rw [h1]; omega), h1, if_neg c]
      by_cases c2 : q < i * 16 + 16
      · rw [List.getElem?_append_left (by rw [hb]; omega), if_pos c2]
      · rw [List.getElem?_append_right (by rw [hb]; omega), if_neg c2, hb, List.getElem?_drop, Array.getElem?_toList]
        congr 1
        omega
  by_cases ck : k = i
  · subst ck
    rw [List.getElem?_set_self hi] at hx
    obtain rfl := Option.some.inj hx
    refine ⟨hb, fun j v hv => ?_⟩
    have hj : j < 16 := by rw [← hb]; exact (List.getElem?_eq_some_iff.1 hv).1
    rw [key, if_neg (by omega), if_pos (by omega), show k * 16 + j - k * 16 = j by omega]
    exact hv
  · rw [List.getElem?_set_ne (Ne.symm ck)] at hx
    refine ⟨(hr k x hx).1, fun j v hv => ?_⟩
    have hj : j < 16 := by rw [← (hr k x hx).1]; exact (List.getElem?_eq_some_iff.1 hv).1
    rw [key]
    by_cases c : k * 16 + j < i * 16
    · rw [if_pos c]; exact (hr k x hx).2 j v hv
    · rw [if_neg c, if_neg (by omega)]; exact (hr k x hx).2 j v hv
theorem Touch.rowA {D gS g : Nat} {w w' : World} (h : Touch D gS (some ⟨g, 0, none⟩) w w') (cs : Array Value) : Touch D gS (some ⟨g, 0, none⟩) w (w'.setRow g cs) :=
  ⟨h.os, h.tape, h.output, Nat.le_trans h.size (Nat.le_of_eq (size_setRow _ _ _).symm), fun k hk h1 h2 h3 => (setRow_other w' g k cs (h3 _ rfl)).trans (h.block k hk h1 h2 h3)⟩
theorem Touch.cellD {D gS : Nat} {A : Option Addr} {w w' : World} (h : Touch D gS A w w') (i : Nat) (v : Value) : Touch D gS A w (w'.setCell ⟨D, i, none⟩ v) :=
  ⟨h.os, h.tape, h.output, Nat.le_trans h.size (Nat.le_of_eq (by simp)), fun k hk h1 h2 h3 => (Below.heap_setCell w' ⟨D, i, none⟩ v k h1).trans (h.block k hk h1 h2 h3)⟩
theorem info56 : ∃ i, Try.prog.info? 76 = some i ∧ i.zero = some (.agg #[.int .i64 0, .int .u8 0, .int .u8 0, .int .u8 0, .int .u8 0, .int .u8 0, .int .u8 0, .int .u8 0, .int .u8 0, .int .u8 0, .int .u8 0, .int .u8 0, .int .u8 0, .int .u8 0, .int .u8 0, .int .u8 0, .int .u8 0]) :=
  ⟨(Try.prog.info? 76).get (by kernel_rfl), (Option.some_get _).symm, by kernel_rfl⟩
theorem clear_facts {D gS : Nat} {vS : Value} {A : Option Addr} {n c g : Nat} {cur : Array Value} {w w1 : World} (hD : w.heap[D]? = some (.cells #[vS, .slice A n c] 64 (0, 0))) (hA : (A = none) ∨ (A = some ⟨g, 0, none⟩ ∧ w.heap[g]? = some (.cells cur 76 (0, 0)) ∧ n * 17 ≤ cur.size))
    (h1 : (A = none ∧ w1 = w) ∨ (A = some ⟨g, 0, none⟩ ∧ ∃ zs : List Value, zs.length = n * 17 ∧ w1 = w.setRow g (splice cur.toList 0 zs).toArray)) :
    w1.heap[D]? = some (.cells #[vS, .slice A n c] 64 (0, 0)) ∧ (A = none ∨ (A = some ⟨g, 0, none⟩ ∧ ∃ cur', w1.heap[g]? = some (.cells cur' 76 (0, 0)) ∧ cur'.size = cur.size)) ∧ Touch D gS A w w1 := by
  rcases h1 with ⟨rfl, rfl⟩ | ⟨rfl, zs, hz, rfl⟩
  · exact ⟨hD, .inl rfl, Touch.refl _ _ _ _⟩
  · rcases hA with hA | ⟨_, hg, hfit⟩
    · cases hA
    · have hne : D ≠ g := blk_ne hD hg (by decide)
      refine ⟨(setRow_other _ _ _ _ hne).trans hD, .inr ⟨rfl, _, setRow_heap _ _ _ _ _ _ hg, ?_⟩, (Touch.refl _ _ _ _).rowA _⟩
      have h2 : cur.toList.length = cur.size := Array.length_toList
      have h3 : (splice cur.toList 0 zs).length = cur.toList.length := length_splice _ _ _ (by rw [hz, h2]; omega)
      rw [List.size_toArray, h3, h2]
set_option maxHeartbeats 1000000 in
set_option maxRecDepth 100000 in
theorem forget_walk (D gS : Nat) (vS : Value) (A : Option Addr) (n c g : Nat) (cur : Array Value) (w : World) (hD : w.heap[D]? = some (.cells #[vS, .slice A n c] 64 (0, 0))) (hA : (A = none) ∨ (A = some ⟨g, 0, none⟩ ∧ w.heap[g]? = some (.cells cur 76 (0, 0)) ∧ n * 17 ≤ cur.size)) (hc : n ≤ c) :
    Calls Try.prog 40 #[.pointer (some ⟨D, 0, none⟩)] w fun x w' => x = .returned (.tuple #[]) ∧ w'.heap[D]? = some (.cells #[vS, .slice A 0 c] 64 (0, 0)) ∧ (A = none ∨ ∃ cur', w'.heap[g]? = some (.cells cur' 76 (0, 0)) ∧ cur'.size = cur.size) ∧ Touch D gS A w w' := by
  have q1 : w.cell? ⟨D, 1, none⟩ = some (.slice A n c) := (blk_cell hD 1).trans rfl
  obtain ⟨i56, hi56, hz56⟩ := info56
  have HD := Aside0.mk hD
  have HA := Aside0.mk hA
  have HC := Aside0.mk hc
  have HI := Aside0.mk hi56
  have HZ := Aside0.mk hz56
  obtain ⟨i0, hi0, _⟩ : ∃ i, Try.prog.info? 76 = some i ∧ True := ⟨i56, hi56, trivial⟩
  have hcut := cut_to (P := Try.prog) 62 76 .i64 Try.underlying62 hi56 A n c 0 (Int.le_refl 0) (Int.natCast_nonneg n) hc
  rw [show (0 : Int).toNat = 0 from rfl] at hcut
  clear hD hA hc hi56 hz56 hi0
  go_enter Try.func40, Try.ntmps40
  go_wp2_with ((with_reducible refine gate_builtin (b := .clear) (xs := #[.tmp 5]) rfl ?_); refine wpList_clear_row rfl (.tmp 5) 62 rfl 76 Try.underlying62 _ i56 HI.out HZ.out (by kernel_rfl) (by decide) A n c rfl g cur 76 HA.out ?_; intro w1 h1; have H1 := Aside0.mk (clear_facts (gS := gS) HD.out HA.out h1); clear h1; have q2 : w1.cell? ⟨D, 1, none⟩ = some (.slice A n c) := (blk_cell H1.out.1 1).trans rfl; have f2 := blk_frozen H1.out.1 1)
  go_end0
  have hne : A = none ∨ D ≠ g := by
    rcases H1.out.2.1 with h | ⟨_, cur', h, _⟩
    · exact .inl h
    · exact .inr (blk_ne H1.out.1 h (by decide))
  refine ⟨rfl, blk_put H1.out.1 1 _ rfl, ?_, H1.out.2.2.cellD 1 _⟩
  rcases H1.out.2.1 with h | ⟨hA, cur', h, hs⟩
  · exact .inl h
  · refine .inr ⟨cur', blk_far h (p := ⟨D, 1, none⟩) ?_ _, hs⟩
    rcases hne with h0 | h0
    · rw [hA] at h0; cases h0
    · exact Ne.symm h0
theorem own_touch {base e size n D gS : Nat} {A : Option Addr} {v : Value} {xs : List Value} {w w' : World} (h : w.ownsRow base e size v n xs) (ht : Touch D gS A w w') (h1 : ∀ g, v.ownBlock = some g → g ≠ D ∧ g ≠ gS ∧ ∀ a, A = some a → g ≠ a.block) : w'.ownsRow base e size v n xs := by
  refine ⟨h.1, ?_⟩
  rcases h.2 with h0 | ⟨g, cap, cur, he, hg, hh, hc⟩
  · exact .inl h0
  · have hb := h1 g (by rw [he]; rfl)
    exact .inr ⟨g, cap, cur, he, hg, (ht.block g (blk_lt hh) hb.1 hb.2.1 hb.2.2).trans hh, hc⟩
theorem own_ne {base n gS : Nat} {v : Value} {xs : List Value} {w : World} {cS : Array Value} (h : w.ownsRow base 76 17 v n xs) (hs : w.heap[gS]? = some (.cells cS 74 (0, 0))) : ∀ g, v.ownBlock = some g → g ≠ gS := by
  intro g hg
  rcases h.2 with ⟨rfl, _⟩ | ⟨g', cap, cur, rfl, _, hh, _⟩
  · simp [Value.ownBlock] at hg
  · simp only [Value.ownBlock, Option.some.injEq] at hg
    subst hg
    exact blk_ne hh hs (by decide)
theorem Touch.drew {D gS : Nat} {A : Option Addr} {w w' : World} (h : Touch D gS A w w') : Touch D gS A w w'.drew := h.below (below_drew (Below.refl _ _))
theorem Touch.two {D gS : Nat} {A : Option Addr} {w w1 w2 : World} (h1 : Touch gS gS none w w1) (h2 : Touch D D A w1 w2) : Touch D gS A w w2 :=
  ⟨h2.os.trans h1.os, h2.tape.trans h1.tape, h2.output.trans h1.output, Nat.le_trans h1.size h2.size, fun k hk a b c => (h2.block k (Nat.lt_of_lt_of_le hk h1.size) a a c).trans (h1.block k hk b b (fun _ ha => by cases ha))⟩
/-- What is known of the row of those that wait, ahead of its being let go. -/
def WaitRow (base : Nat) (A : Option Addr) (n cW g : Nat) (cur : Array Value) (w : World) : Prop :=
  (A = none ∧ cW = 0) ∨ (A = some ⟨g, 0, none⟩ ∧ w.heap[g]? = some (.cells cur 76 (0, 0)) ∧ n * 17 ≤ cur.size ∧ base ≤ g ∧ cW ≤ maxLen ∧ cur.size = cW * 17)
theorem wait_row {base cW n : Nat} {A : Option Addr} {xs : List Value} {w : World} (h : w.ownsRow base 76 17 (.slice A n cW) n xs) : n ≤ cW ∧ ∃ g cur, WaitRow base A n cW g cur w := by
  rcases h.2 with ⟨he, hn⟩ | ⟨g, cap, cur, he, hg, hh, hc, hm, hs, _⟩
  · injection he with hA _ hcW
    exact ⟨by omega, 0, #[], .inl ⟨hA, hcW⟩⟩
  · injection he with hA _ hcap
    subst hcap
    exact ⟨hc, g, cur, .inr ⟨hA, hh, by rw [hs]; exact Nat.mul_le_mul_right _ hc, hg, hm, hs⟩⟩
/-- The disk behind its having let go what waited. -/
theorem forgot {base D gS cW n g : Nat} {A : Option Addr} {cur : Array Value} {S : List (List Int)} {w w' : World} {len : Nat} (hlen : S.length = len) (hb : base ≤ D) (hbS : base ≤ gS) (hD0 : w.heap[D]? = some (.cells #[.slice (some ⟨gS, 0, none⟩) len len, .slice A n cW] 64 (0, 0))) (hR : RowAt secC 16 74 gS S w) (hG : WaitRow base A n cW g cur w)
    (hD : w'.heap[D]? = some (.cells #[.slice (some ⟨gS, 0, none⟩) len len, .slice A 0 cW] 64 (0, 0))) (hA : A = none ∨ ∃ cur', w'.heap[g]? = some (.cells cur' 76 (0, 0)) ∧ cur'.size = cur.size) (hT : Touch D D A w w') : DiskAt base D gS A cW S [] w' := by
  subst hlen
  obtain ⟨cS, hcS, h1, h2⟩ := hR
  have hne : gS ≠ D := (blk_ne hD0 hcS (by decide)).symm
  refine ⟨hD, hb, hbS, ⟨cS, ?_, h1, h2⟩, rfl, ?_⟩
  · refine (hT.block gS (blk_lt hcS) hne hne (fun a ha => ?_)).trans hcS
    rcases hG with ⟨h0, _⟩ | ⟨h0, hh, _⟩
    · rw [h0] at ha; cases ha
    · rw [h0] at ha
      obtain rfl := Option.some.inj ha
      exact (blk_ne hh hcS (by decide)).symm
  · rcases hG with ⟨h0, h3⟩ | ⟨h0, hh, _, hg, hm, hs⟩
    · subst h0; subst h3
      exact .inl ⟨rfl, rfl⟩
    · subst h0
      rcases hA with hA | ⟨cur', hc', hs'⟩
      · cases hA
      · exact .inr ⟨g, cW, cur', rfl, hg, hc', Nat.zero_le _, hm, by rw [hs', hs], by simp⟩
set_option maxHeartbeats 2000000 in
set_option maxRecDepth 100000 in
theorem sync_walk (base D gS cW : Nat) (A : Option Addr) (S : List (List Int)) (W : List (Int × List Int)) (w : World) (h : DiskAt base D gS A cW S W w) (hv : ∀ p ∈ W, 0 ≤ p.1 ∧ p.1 < (S.length : Int) ∧ p.2.length = 16) (hn : W.length < 1099511627776) :
    Calls Try.prog 25 #[.pointer (some ⟨D, 0, none⟩)] w fun x w' => x = .returned (.tuple #[]) ∧ DiskAt base D gS A cW (applyW S W) [] w' ∧ Touch D gS A w w' := by
  have q1 : w.cell? ⟨D, 1, none⟩ = some (.slice A W.length cW) := (blk_cell h.1 1).trans rfl
  have H := Aside0.mk h
  have HV := Aside0.mk hv
  have HWn := Aside0.mk hn
  obtain ⟨cS0, hcS0, _⟩ := h.2.2.2.1
  have HDS := Aside0.mk (blk_ne h.1 hcS0 (by decide))
  have HON := Aside0.mk (own_ne h.2.2.2.2 hcS0)
  clear h hv hn hcS0
  go_enter Try.func25, Try.ntmps25
  go_wp2_with fail
  go_loopg [9] W.length (fun kq v9 w' => ∃ j : Nat, v9 = .int .i64 (j : Int) ∧ Aside0 (j + kq = W.length) ∧ Aside0 (RowAt secC 16 74 gS (applyW S (W.take j)) w') ∧ Aside0 (Touch gS gS none w w'))
  case atStart => exact ⟨0, rfl, ⟨by omega⟩, ⟨H.out.2.2.2.1⟩, ⟨Touch.refl _ _ _ _⟩⟩
  case round =>
    obtain ⟨j, rfl, HJ, HRS, HT⟩ := hrel
    have HD := Aside0.mk ((HT.out.block D (blk_lt H.out.1) HDS.out HDS.out (fun a ha => by cases ha)).trans H.out.1)
    have HO := Aside0.mk (own_touch H.out.2.2.2.2 HT.out (fun g hg => ⟨HON.out g hg, HON.out g hg, fun a ha => by cases ha⟩))
    by_cases hlt : j < W.length
    · obtain ⟨p, hp⟩ : ∃ p, W[j]? = some p := ⟨_, List.getElem?_eq_getElem hlt⟩
      have hpv := HV.out p (List.mem_of_getElem? hp)
      obtain ⟨gW, eA, _, cWr, hcW, _, hrow⟩ := wr_row HO.out (fun q hq => (HV.out q hq).2.2) (by omega)
      obtain ⟨cS, hcS, hcl, hrS⟩ := HRS.out
      rw [applyW_len] at hcl
      subst eA
      have HcS := Aside0.mk hcS
      have HrS := Aside0.mk hrS
      have Hcl := Aside0.mk hcl
      have HcW := Aside0.mk hcW
      have HP := Aside0.mk (hrow j p hp).2
      have HPl := Aside0.mk (hrow j p hp).1
      have HPz := Aside0.mk (show (wrC p).toArray.size = 17 by rw [List.size_toArray]; exact HPl.out)
      have HPi := Aside0.mk (show (Try.prog.info? 76).map (·.size) = some (wrC p).length by rw [HPl.out]; kernel_rfl)
      have HP16 := Aside0.mk (show (secC p.2).length = 16 by rw [secC_len]; exact hpv.2.2)
      have HPs := Aside0.mk (show (secC p.2).toArray.size = 16 by rw [List.size_toArray]; exact HP16.out)
      have HPj := Aside0.mk (show (Try.prog.info? 74).map (·.size) = some (secC p.2).length by rw [HP16.out]; kernel_rfl)
      have HQ := Aside0.mk hp
      have HPV := Aside0.mk hpv
      have p1 : decide ((j : Int) < (W.length : Int)) = true := decide_eq_true (by omega)
      have p2 := eq_true (show 0 ≤ (j : Int) by omega)
      have p3 := eq_true (show (j : Int) < (W.length : Int) by omega)
      have p4 := eq_true hpv.1
      have p5 := eq_true hpv.2.1
      have HLT := Aside0.mk hlt
      have Hfit := Aside0.mk (show p.1.toNat * 16 + 16 ≤ cS.size by have := hpv.1; have := hpv.2.1; omega)
      clear hcW hrow hp hlt hpv hcS hrS hcl q1
      go_wp2_with (first | ((with_reducible refine gate_ (.load 76 (.tmp 11)) rfl ?_); refine wpList_load_at rfl 76 (.tmp 11) rfl gW (j * 17) ⟨gW, j * 17, none⟩ rfl rfl 76 cWr (wrC p) (0, 0) _ HcW.out HP.out Try.underlying76 rfl HPi.out ?_) | ((with_reducible refine gate_store (t := 76) (p := 3) rfl ?_); refine wpList_store_row rfl 76 _ _ rfl wr.heap.size _ rfl rfl 76 _ (blk_new wr _) (by rw [HPz.out]; kernel_rfl) (by rw [HPz.out]; rfl) (wrC_all p) ?_; obtain ⟨w2, hw2⟩ : ∃ w2, w2 = (wr.alloc (.cells #[.int .i64 0, .int .u8 0, .int .u8 0, .int .u8 0, .int .u8 0, .int .u8 0, .int .u8 0, .int .u8 0, .int .u8 0, .int .u8 0, .int .u8 0, .int .u8 0, .int .u8 0, .int .u8 0, .int .u8 0, .int .u8 0, .int .u8 0] 76)).setRow wr.heap.size (wrC p).toArray := ⟨_, rfl⟩; rw [← hw2]; have HB2 := Aside0.mk (show Below wr.heap.size wr w2 by rw [hw2]; exact bset (below_alloc (Below.refl _ _) _) (Nat.le_refl _) _); have HC2 := Aside0.mk (show w2.heap[wr.heap.size]? = some (.cells (wrC p).toArray 76 (0, 0)) by rw [hw2]; exact setRow_heap _ _ _ _ _ _ (blk_new wr _)); clear hw2; have q2 : w2.cell? ⟨wr.heap.size, 0, none⟩ = some (.int .i64 p.1) := (blk_cell HC2.out 0).trans rfl; have q3 : w2.cell? ⟨D, 0, none⟩ = some (.slice (some ⟨gS, 0, none⟩) S.length S.length) := (blk_cell (blk_below HD.out HB2.out) 0).trans rfl; have HcS2 := Aside0.mk (blk_below HcS.out HB2.out)))
      go_still_tail 9, (by kernel_rfl)
      refine wpStill_load_at rfl 74 (.tmp 19) rfl wr.heap.size 1 ⟨wr.heap.size, 1, none⟩ rfl rfl 76 (wrC p).toArray (secC p.2) (0, 0) _ (blk_drew HC2.out) (wr_tail p) Try.underlying74 rfl HPj.out ?_
      repeat still_step
      refine wpStill_nil ?_
      change wpList _ _ _ _ _ w2.drew
      refine wpList_store_at rfl 74 (.tmp 21) (.tmp 20) rfl gS (p.1.toNat * 16) ⟨gS, p.1.toNat * 16, none⟩ (secC p.2).toArray rfl rfl rfl 74 cS (blk_drew HcS2.out) (by rw [HPs.out]; kernel_rfl) (by rw [HPs.out]; exact Hfit.out) (secC_all p.2) ?_
      obtain ⟨w3, hw3⟩ : ∃ w3, w3 = w2.drew.setRow gS (splice cS.toList (p.1.toNat * 16) (secC p.2).toArray.toList).toArray := ⟨_, rfl⟩
      rw [← hw3]
      have HT3 := Aside0.mk (show Touch gS gS none w w3 by rw [hw3]; exact ((HT.out.below HB2.out).drew).row _)
      have HR3 := Aside0.mk (show RowAt secC 16 74 gS ((applyW S (W.take j)).set p.1.toNat p.2) w3 by
        rw [hw3]
        have hlen := applyW_len (W.take j) S
        have hp1 := HPV.out
        exact RowAt.set (blk_drew HcS2.out) (by rw [hlen]; exact Hcl.out) HrS.out (by rw [hlen]; omega) HP16.out)
      clear hw3 q2 q3
      go_wp2
      obtain ⟨k1, rfl⟩ : ∃ k1, gk = k1 + 1 := ⟨gk - 1, by have := HJ.out; have := HLT.out; omega⟩
      go_roundg k1
      case measure => omega
      case rel =>
        refine ⟨j + 1, ?_, ⟨by have := HJ.out; omega⟩, ⟨?_⟩, HT3⟩
        · exact congrArg (Value.int .i64) (widx (by have := HLT.out; have := HWn.out; omega))
        · rw [applyW_step HQ.out]
          exact HR3.out
    · obtain rfl : j = W.length := by have := HJ.out; omega
      have p1 : decide (((W.length : Nat) : Int) < (W.length : Int)) = false := decide_eq_false (by omega)
      rw [List.take_length] at HRS
      clear hlt q1
      obtain ⟨hcap, g, cur, hgA⟩ := wait_row HO.out
      have HG := Aside0.mk hgA
      have HCAP := Aside0.mk hcap
      clear hgA hcap
      go_wp2_with fail
      refine (forget_walk D D (.slice (some ⟨gS, 0, none⟩) S.length S.length) A W.length cW g cur wr HD.out (by rcases HG.out with h | h; exact .inl h.1; exact .inr ⟨h.1, h.2.1, h.2.2.1⟩) HCAP.out).mono ?_
      rintro x w4 ⟨rfl, hD4, hG4, hT4⟩
      have HD4 := Aside0.mk hD4
      have HG4 := Aside0.mk hG4
      have HT4 := Aside0.mk hT4
      clear hD4 hG4 hT4
      go_wp2
      go_end0
      exact ⟨rfl, forgot (applyW_len W S) H.out.2.1 H.out.2.2.1 HD.out HRS.out HG.out HD4.out HG4.out HT4.out, HT.out.two HT4.out⟩
end Go.Proofs.Ytoafbpbnlmcklaa.PAll

namespace Go.Proofs.Ytoafbpbnlmcklaa.PAll
open Go.RowKit Go.Proofs.YtoafbpbnlmcklaaW.PrintWords Go.Proofs.YtoafbpbnlmcklaaW.PrintLast Go.Proofs.YtoafbpbnlmcklaaW.PrintMore
set_option linter.unusedVariables false
set_option linter.unusedSimpArgs false
section
variable {P : Program}
theorem run_loadVar_cells (w : World) (ad : Addr) (ty : TypeId) (cs : List Value) (d : TypeDesc) (hcs : ∀ j v, cs[j]? = some v → w.cell? (ad.add j) = some v)
    (hu : P.underlying ty = some d) (hd : (match d with | .struct _ | .array _ _ => true | _ => false) = true) (hi : (P.info? ty).map (·.size) = some cs.length) :
    (loadVar ty ad).run P w = .ok (.agg cs.toArray) w := by
  have hl : (loadCells ad cs.length).run P w = .ok cs.toArray w := run_loadCells_list (P := P) w ad cs hcs
  cases hq : P.info? ty with
  | none => simp [hq] at hi
  | some i =>
    have hs : i.size = cs.length := by simpa [hq] using hi
    have hagg : (isAgg ty).run P w = .ok true w := by
      unfold isAgg
      rw [Sem.run_bind, run_underlying hu w]
      cases d <;> simp_all
    simp [loadVar, Sem.run_bind, hagg, sizeOf, typeInfo, hq, hs, hl]
theorem wpStill_load_cells {ops : Array Oper} {rest : List Oper} {o : Oper} {a : Act} {w : World} {Q : Act → Prop} (hgd : o.guard = none) (ty : TypeId) (x : Operand) (ho : o.op = .load ty x)
    (p : Addr) (hx : a.eval x = .pointer (some p)) (cs : List Value) (d : TypeDesc) (hcs : ∀ j v, cs[j]? = some v → w.cell? (p.add j) = some v)
    (hu : P.underlying ty = some d) (hd : (match d with | .struct _ | .array _ _ => true | _ => false) = true) (hi : (P.info? ty).map (·.size) = some cs.length)
    (h : wpStill P ops w Q rest (a.put o.dst (.agg cs.toArray))) : wpStill P ops w Q (o :: rest) a := by
  refine wpStill_step (fun K hK => ?_)
  have hw : Region.wanted o (yielded ops a.tmps) = true := by simp [Region.wanted, hgd]
  have hrun : (execOp a.eval o).run P w = .ok (.value (.agg cs.toArray)) w := by
    unfold execOp
    simp only [ho, hx, Instr.loadAt, Instr.sureAddr, Sem.run_bind, Sem.run_pure, Result.andThen_ok, run_loadVar_cells w p ty cs d hcs hu hd hi]
  have hs : o.still P a w K := by
    unfold Oper.still
    rw [hrun, Oper.stillUpon_value]
    exact hK _ h
  rw [if_pos hw]
  exact hs
end
set_option maxHeartbeats 1000000 in
set_option maxRecDepth 100000 in
theorem write_no (base D gS cW : Nat) (A Ab : Option Addr) (S : List (List Int)) (W : List (Int × List Int)) (i : Int) (n cb : Nat) (w : World) (h : DiskAt base D gS A cW S W w)
    (hi : (decide (i ≥ 0) = false) ∨ (decide (i ≥ 0) = true ∧ decide (i < (S.length : Int)) = false) ∨ (decide (i ≥ 0) = true ∧ decide (i < (S.length : Int)) = true ∧ ((n : Int) != 16) = true)) :
    Calls Try.prog 15 #[.pointer (some ⟨D, 0, none⟩), .int .i64 i, .slice Ab n cb] w fun x w' => x = .returned (.int .i64 1) ∧ w' = w := by
  have q0 : w.cell? ⟨D, 0, none⟩ = some (.slice (some ⟨gS, 0, none⟩) S.length S.length) := (blk_cell h.1 0).trans rfl
  clear h
  rcases hi with hi | ⟨hi, hj⟩ | ⟨hi, hj, hk⟩
  all_goals
    go_enter Try.func15, Try.ntmps15
    go_wp2
    go_ret
    exact ⟨rfl, rfl⟩
theorem own_block {base cW : Nat} {A : Option Addr} {n : Nat} {xs : List Value} {w : World} (h : w.ownsRow base 76 17 (.slice A n cW) n xs) : ∀ k, (Value.slice A n cW).ownBlock = some k → A = some ⟨k, 0, none⟩ ∧ ∃ cur, w.heap[k]? = some (.cells cur 76 (0, 0)) := by
  intro k hk
  rcases h.2 with ⟨he, _⟩ | ⟨g, cap, cur, he, _, hh, _⟩
  · rw [he] at hk; simp [Value.ownBlock] at hk
  · have hA : A = some ⟨g, 0, none⟩ := by injection he
    subst hA
    simp only [Value.ownBlock, Option.some.injEq] at hk
    subst hk
    exact ⟨rfl, cur, hh⟩
theorem write_end {base D gS cW cap g : Nat} {A : Option Addr} {S : List (List Int)} {W : List (Int × List Int)} {p : Int × List Int} {w w5 : World} {o : Obj} (h : DiskAt base D gS A cW S W w)
    (h2 : w5.ownsRow base 76 17 (.slice (some ⟨g, 0, none⟩) (W.length + 1) cap) (W.length + 1) (W.flatMap wrC ++ wrC p)) (h3 : (w.drew.alloc o).grownBy w5 (Value.slice A W.length cW).ownBlock) (h4 : (Value.slice A W.length cW).ownBlock = some g ∨ g = w.heap.size + 1) :
    DiskAt base D gS (some ⟨g, 0, none⟩) cap S (W ++ [p]) (w5.setCell ⟨D, 1, none⟩ (.slice (some ⟨g, 0, none⟩) (W.length + 1) cap)) ∧ Touch D gS A w (w5.setCell ⟨D, 1, none⟩ (.slice (some ⟨g, 0, none⟩) (W.length + 1) cap)) ∧ (∀ a, (some ⟨g, 0, none⟩ : Option Addr) = some a → A = some ⟨g, 0, none⟩ ∨ w.heap.size ≤ a.block) := by
  obtain ⟨hD, hb, hbS, ⟨cS, hcS, hs1, hs2⟩, hO⟩ := h
  have hob := own_block hO
  have neD : ∀ k, (Value.slice A W.length cW).ownBlock = some k → k ≠ D := fun k hk => by
    obtain ⟨_, cur, hh⟩ := hob k hk
    exact blk_ne hh hD (by decide)
  have neS : ∀ k, (Value.slice A W.length cW).ownBlock = some k → k ≠ gS := fun k hk => by
    obtain ⟨_, cur, hh⟩ := hob k hk
    exact blk_ne hh hcS (by decide)
  have hneDS : gS ≠ D := (blk_ne hD hcS (by decide)).symm
  have hD5 := blk_grown (blk_alloc (blk_drew hD) o) h3 (fun e => neD D e.symm rfl)
  have hS5 := blk_grown (blk_alloc (blk_drew hcS) o) h3 (fun e => neS gS e.symm rfl)
  have hgD : g ≠ D := by
    rcases h4 with h4 | h4
    · exact neD g h4
    · have := blk_lt hD; omega
  have hsz : w.heap.size ≤ w5.heap.size := by
    have := h3.size
    simp at this
    omega
  refine ⟨⟨?_, hb, hbS, ⟨cS, blk_far hS5 (p := ⟨D, 1, none⟩) hneDS _, hs1, hs2⟩, ?_⟩, ⟨h3.os, h3.tape, h3.output, Nat.le_trans hsz (Nat.le_of_eq (by simp)), fun k hk n1 n2 n3 => ?_⟩, fun a ha => ?_⟩
  · rw [List.length_append, List.length_cons, List.length_nil]
    exact blk_put hD5 1 _ rfl
  · rw [List.length_append, List.length_cons, List.length_nil, List.flatMap_append, List.flatMap_cons, List.flatMap_nil, List.append_nil]
    refine ⟨h2.1, ?_⟩
    rcases h2.2 with ⟨he, _⟩ | ⟨g', cap', cur, he, hg, hh, hc⟩
    · cases he
    · refine .inr ⟨g', cap', cur, he, hg, ?_, hc⟩
      have e : g' = g := by injection he with h1; injection h1 with h1; injection h1 with h1; exact h1.symm
      subst e
      exact blk_far hh (p := ⟨D, 1, none⟩) hgD _
  · rw [Below.heap_setCell w5 ⟨D, 1, none⟩ _ k n1, h3.block k (by simp; omega) (fun e => ?_)]
    · exact Below.heap_alloc w.drew o k hk
    · obtain ⟨hA, _⟩ := hob k e.symm
      exact n3 _ hA rfl
  · obtain rfl := Option.some.inj ha
    rcases h4 with h4 | h4
    · exact .inl (hob g h4).1
    · exact .inr (by show w.heap.size ≤ g; omega)
theorem array54 (ad : Addr) (cb : Nat) (W : World) : (Instr.arrayAt 74 (.slice (some ad) 16 cb)).run Try.prog W = .ok (.pointer (some ad)) W := by
  simp [Instr.arrayAt, run_underlying Try.underlying74 W]
theorem infoS {i : TypeInfo} (h : Try.prog.info? 76 = some i) : i.size = 17 := by
  have : (Try.prog.info? 76).map (·.size) = some 17 := by kernel_rfl
  rw [h] at this
  exact Option.some.inj this
theorem infoB {i : TypeInfo} (h : Try.prog.info? 76 = some i) : i.bytes = 24 := by
  have : (Try.prog.info? 76).map (·.bytes) = some 24 := by kernel_rfl
  rw [h] at this
  exact Option.some.inj this
theorem wrC_one (p : Int × List Int) : ∀ u ∈ wrC p, u.oneCell' = true := by
  intro u hu
  simp only [wrC, secC, List.mem_cons, List.mem_map] at hu
  rcases hu with rfl | ⟨y, -, rfl⟩ <;> rfl
theorem lit_cells (w : World) (p : Int × List Int) {e : TypeId} : ∀ j u, (wrC p)[j]? = some u → (w.alloc (.cells (wrC p).toArray e)).cell? ((⟨w.heap.size, 0, none⟩ : Addr).add j) = some u := by
  intro j u hu
  rw [add_zero_at, cell_of_row _ _ _ _ _ _ (blk_new w _), List.getElem?_toArray]
  exact hu
set_option maxHeartbeats 2000000 in
set_option maxRecDepth 100000 in
theorem write_yes (base D gS cW : Nat) (A : Option Addr) (S : List (List Int)) (W : List (Int × List Int)) (i : Int) (x0 x1 x2 x3 x4 x5 x6 x7 x8 x9 x10 x11 x12 x13 x14 x15 : Int) (ad : Addr) (cb : Nat) (w : World) (h : DiskAt base D gS A cW S W w)
    (hi : decide (i ≥ 0) = true) (hj : decide (i < (S.length : Int)) = true) (hn : W.length < 1099511627776) (hcb : 16 ≤ cb) (hb : ∀ j v, (secC [x0, x1, x2, x3, x4, x5, x6, x7, x8, x9, x10, x11, x12, x13, x14, x15])[j]? = some v → w.cell? (ad.add j) = some v) :
    Calls Try.prog 15 #[.pointer (some ⟨D, 0, none⟩), .int .i64 i, .slice (some ad) 16 cb] w fun x w' => x = .returned (.int .i64 0) ∧ ∃ A' cW', DiskAt base D gS A' cW' S (W ++ [(i, [x0, x1, x2, x3, x4, x5, x6, x7, x8, x9, x10, x11, x12, x13, x14, x15])]) w' ∧ Touch D gS A w w' ∧ (∀ a, A' = some a → A = A' ∨ w.heap.size ≤ a.block) := by
  have q0 : w.cell? ⟨D, 0, none⟩ = some (.slice (some ⟨gS, 0, none⟩) S.length S.length) := (blk_cell h.1 0).trans rfl
  have q1 : w.cell? ⟨D, 1, none⟩ = some (.slice A W.length cW) := (blk_cell h.1 1).trans rfl
  have H := Aside0.mk h
  have HN := Aside0.mk hn
  have HB := Aside0.mk hb
  clear h hn hb
  go_enter Try.func15, Try.ntmps15
  go_wp2_with (go_at_call 36; go_in)
  have HD := Aside0.mk H.out.1
  have hDl : D < w.heap.size := blk_lt H.out.1
  have HDW := Aside0.mk (show ∀ g, (Value.slice A W.length cW).ownBlock = some g → g ≠ D by
    intro g hg
    rcases H.out.2.2.2.2.2 with ⟨he, _⟩ | ⟨g', cap, cur, he, _, hh, _⟩
    · rw [he] at hg; simp [Value.ownBlock] at hg
    · rw [he] at hg
      simp only [Value.ownBlock, Option.some.injEq] at hg
      subst hg
      exact blk_ne hh H.out.1 (by decide))
  have y1 : w.cell? ⟨ad.block, ad.off + 1, none⟩ = some (.int .u8 x1) := by have h0 := HB.out 1 _ rfl; simpa [Addr.add] using h0
  have y2 : w.cell? ⟨ad.block, ad.off + 2, none⟩ = some (.int .u8 x2) := by have h0 := HB.out 2 _ rfl; simpa [Addr.add] using h0
  have y3 : w.cell? ⟨ad.block, ad.off + 3, none⟩ = some (.int .u8 x3) := by have h0 := HB.out 3 _ rfl; simpa [Addr.add] using h0
  have y4 : w.cell? ⟨ad.block, ad.off + 4, none⟩ = some (.int .u8 x4) := by have h0 := HB.out 4 _ rfl; simpa [Addr.add] using h0
  have y5 : w.cell? ⟨ad.block, ad.off + 5, none⟩ = some (.int .u8 x5) := by have h0 := HB.out 5 _ rfl; simpa [Addr.add] using h0
  have y6 : w.cell? ⟨ad.block, ad.off + 6, none⟩ = some (.int .u8 x6) := by have h0 := HB.out 6 _ rfl; simpa [Addr.add] using h0
  have y7 : w.cell? ⟨ad.block, ad.off + 7, none⟩ = some (.int .u8 x7) := by have h0 := HB.out 7 _ rfl; simpa [Addr.add] using h0
  have y8 : w.cell? ⟨ad.block, ad.off + 8, none⟩ = some (.int .u8 x8) := by have h0 := HB.out 8 _ rfl; simpa [Addr.add] using h0
  have y9 : w.cell? ⟨ad.block, ad.off + 9, none⟩ = some (.int .u8 x9) := by have h0 := HB.out 9 _ rfl; simpa [Addr.add] using h0
  have y10 : w.cell? ⟨ad.block, ad.off + 10, none⟩ = some (.int .u8 x10) := by have h0 := HB.out 10 _ rfl; simpa [Addr.add] using h0
  have y11 : w.cell? ⟨ad.block, ad.off + 11, none⟩ = some (.int .u8 x11) := by have h0 := HB.out 11 _ rfl; simpa [Addr.add] using h0
  have y12 : w.cell? ⟨ad.block, ad.off + 12, none⟩ = some (.int .u8 x12) := by have h0 := HB.out 12 _ rfl; simpa [Addr.add] using h0
  have y13 : w.cell? ⟨ad.block, ad.off + 13, none⟩ = some (.int .u8 x13) := by have h0 := HB.out 13 _ rfl; simpa [Addr.add] using h0
  have y14 : w.cell? ⟨ad.block, ad.off + 14, none⟩ = some (.int .u8 x14) := by have h0 := HB.out 14 _ rfl; simpa [Addr.add] using h0
  have y15 : w.cell? ⟨ad.block, ad.off + 15, none⟩ = some (.int .u8 x15) := by have h0 := HB.out 15 _ rfl; simpa [Addr.add] using h0
  have yy : w.cell? ad = some (.int .u8 x0) := by
    have h0 := HB.out 0 _ rfl
    have e : ad.add 0 = ad := by unfold Addr.add; simp
    rwa [e] at h0
  obtain ⟨i56, hi56, hz56⟩ := info56
  have HI := Aside0.mk hi56
  have HZ := Aside0.mk hz56
  clear hi56 hz56
  have hat := array54 ad cb
  go_region_law (refine step_append_lies _ rfl (.tmp 20) (.tmp 26) 62 rfl base 76 i56 _ 17 24 Try.underlying62 HI.out HZ.out (infoS HI.out) (infoB HI.out) (by kernel_rfl) (by decide) (.slice A W.length cW) W.length (W.flatMap wrC) rfl (own_below' H.out.2.2.2.2 (below_alloc (below_drew (Below.refl _ _)) _)) ⟨w.heap.size, 0, none⟩ 1 1 (wrC (i, [x0, x1, x2, x3, x4, x5, x6, x7, x8, x9, x10, x11, x12, x13, x14, x15])) rfl rfl (lit_cells w.drew _) (wrC_one _) (by decide) (by have := HN.out; simp only [maxLen]; omega) (by have := HN.out; omega) (by have := H.out.2.1; have := blk_lt H.out.1; simp; omega) (w.heap.size + 1) (by simp) ?_; intro g cap w5 h2 h3 h4 h5; have H2 := Aside0.mk h2; have H3 := Aside0.mk h3; have H4 := Aside0.mk h4; have q5 : w5.cell? ⟨D, 1, none⟩ = some (.slice A W.length cW) := (blk_cell (blk_grown (blk_alloc (blk_drew HD.out) _) h3 (fun e => HDW.out D e.symm rfl)) 1).trans rfl; have f5 := blk_frozen (blk_grown (blk_alloc (blk_drew HD.out) (.cells #[.int .i64 i, .int .u8 x0, .int .u8 x1, .int .u8 x2, .int .u8 x3, .int .u8 x4, .int .u8 x5, .int .u8 x6, .int .u8 x7, .int .u8 x8, .int .u8 x9, .int .u8 x10, .int .u8 x11, .int .u8 x12, .int .u8 x13, .int .u8 x14, .int .u8 x15] 76)) h3 (fun e => HDW.out D e.symm rfl)) 1; clear h2 h3 h4 h5)
  all_goals go_wp2
  all_goals go_ret
  all_goals exact ⟨rfl, _, _, (write_end H.out H2.out H3.out H4.out).1, (write_end H.out H2.out H3.out H4.out).2.1, (write_end H.out H2.out H3.out H4.out).2.2⟩
end Go.Proofs.Ytoafbpbnlmcklaa.PAll
