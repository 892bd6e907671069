/- What an argument of rows is, with a bound on each row's length. -/
import Derived.Test.YtoafbpbnlmcklaaOpens
import Derived.ChangeArms
import Derived.SizedLaws
namespace Go.Proofs.Ytoafbpbnlmcklaa.Rowx
open Go.ChangeShapes Go.WideShapes Go.RowKit Go.Proofs.YtoafbpbnlmcklaaW.PrintWords
variable {P : Program}
structure OpensW {α : Type} (P : Program) (t : TypeId) (d : Kd α) (good : α → Prop) : Prop where
  cells : P.cellsOf t = d.sz
  opens : ∀ {H : Type} {enc : TypeId × Value → H} {W : World} {base : Nat} {spare : Nat → Bool} {held : Bool} {fuel : Nat} {cs : List Value} {x : DataW H × List MemPlace},
    DataW.trod enc P W base spare held fuel t cs = some x → (∀ n ∈ x.1.weights P t, n ≤ reachBytes) → ∃ a, d.K W a cs ∧ good a
theorem weightsAll_mem {H : Type} {e : TypeId} {d : DataW H} {n : Nat} (hn : n ∈ d.weights P e) : ∀ (l : List (DataW H)), d ∈ l → n ∈ DataW.weightsAll P e l
  | [], h => by cases h
  | c :: l, h => by
    rw [DataW.weightsAll]
    rcases List.mem_cons.1 h with h | h
    · subst h; exact List.mem_append_left _ hn
    · exact List.mem_append_right _ (weightsAll_mem hn l h)
theorem OpensW.bytes {t e : TypeId} {k : IntKind} (ht : P.underlying t = some (.slice e)) (hc : P.cellsOf t = 1) (he : P.underlying e = some (.int k)) (hce : P.cellsOf e = 1) (hB : P.bytesOf e = 1) :
    OpensW P t (Kd.slice e (Kd.int k)) (fun xs => xs.length ≤ 140737488351232 ∧ xs.length ≤ maxLen ∧ ∀ x ∈ xs, (Lit.int k x).wf = true) := by
  refine ⟨hc, fun {H enc W base spare held fuel cs x} h hw => ?_⟩
  obtain ⟨l, ⟨A, c, hcs, hl, hC⟩, hg⟩ := (Opens.slice ht hc (Opens.int he hce)).opens h
  refine ⟨l, ⟨A, c, hcs, hl, hC⟩, ?_, hg⟩
  rcases DataW.trod_slice ht h with ⟨e1, _⟩ | ⟨a, len, cap, elems, rest, n, _, e1, rfl, hb, hl2, hm, hlen, hel, hsp, hns⟩
  · rw [e1] at hcs
    injection hcs with e2 _
    injection e2 with e3 e4 e5
    omega
  · rw [e1] at hcs
    injection hcs with e2 _
    injection e2 with e3 e4 e5
    have hz := hw ((elems.length + rest.length) * P.bytesOf e) (by simp [DataW.weights, ht])
    rw [hB, Nat.mul_one] at hz
    have hr : reachBytes = 140737488351232 := by decide
    omega
theorem OpensW.slice {α : Type} {t e : TypeId} {d : Kd α} {good : α → Prop} (ht : P.underlying t = some (.slice e)) (hc : P.cellsOf t = 1) (he : OpensW P e d good) :
    OpensW P t (Kd.slice e d) (fun xs => xs.length ≤ maxLen ∧ ∀ x ∈ xs, good x) := by
  refine ⟨hc, fun {H enc W base spare held fuel cs x} h hw => ?_⟩
  rcases DataW.trod_slice ht h with ⟨rfl, _⟩ | ⟨a, len, cap, elems, rest, n, _, rfl, rfl, hb, hl, hm, hlen, hel, hsp, hns⟩
  · exact ⟨[], ⟨none, 0, rfl, Nat.le_refl _, Kd.C_nil _ _⟩, Nat.zero_le _, fun x hx => by cases hx⟩
  · have h1 : ∀ i, i < len → ∃ z, good z ∧ ∃ c, c.length = d.sz ∧ d.K W z c ∧ ∀ j u, c[j]? = some u → W.cell? (a.add (i * d.sz + j)) = some u := by
      intro i hi
      have hy := hel i hi
      rw [List.getElem?_eq_getElem (by omega)] at hy
      obtain ⟨c, h1, h2⟩ := Option.bind_eq_some_iff.1 hy
      have hmem : (elems[i]'(by omega)).1 ∈ elems.map (·.1) := List.mem_map_of_mem (List.getElem_mem _)
      obtain ⟨z, hz, hg⟩ := he.opens h2 (fun n hn => hw n (by
        simp only [DataW.weights, ht]
        exact List.mem_cons_of_mem _ (List.mem_append_left _ (weightsAll_mem hn _ hmem))))
      obtain ⟨_, hcl, hcell⟩ := World.cells?_some h1
      rw [he.cells] at hcl hcell
      refine ⟨z, hg, c, hcl, hz, fun j u hu => ?_⟩
      have hj := (List.getElem?_eq_some_iff.1 hu).1
      rw [← Addr.add_add, hcell j (by omega), hu]
    obtain ⟨l, hll, hp⟩ := choose_list _ len h1
    subst hll
    refine ⟨l, ⟨some a, cap, rfl, hl, rfl, by unfold maxLen at hm; omega, fun _ => ⟨a, rfl, fun j z hz => ?_⟩⟩, by omega, fun z hz => ?_⟩
    · obtain ⟨_, c, hcl, hk, hcell⟩ := hp j z hz
      exact ⟨c, hcl, hk, hcell⟩
    · obtain ⟨j, hj⟩ := List.getElem?_of_mem hz
      exact (hp j z hj).1
theorem open_rowW {α : Type} {t e : TypeId} {d : Kd α} {good : α → Prop} (ht : P.underlying t = some (.slice e)) (hc : P.cellsOf t = 1) (h : OpensW P e d good) {H : Type} {enc : TypeId × Value → H} {W : World} {r : Reach} {b0 base : Nat} {spare : Nat → Bool} {held : Bool} {v : Value} {x : DataW H} {ps : List MemPlace}
    (hv : Value.okWide P W r b0 t v) {ts : List TypeId} {ds : List (DataW H)} (hsz : (DataW.weightsEach P ts ds).all (· ≤ reachBytes) = true) {j : Nat} (hj : ts[j]? = some t) (hd : ds[j]? = some x) (hx : DataW.Trod enc P W base spare held t v x ps) : ∃ (A : Option Addr) (c : Nat) (l : List α), v = .slice A l.length c ∧ l.length ≤ c ∧ d.C W A l.length l ∧ l.length ≤ maxLen ∧ ∀ a ∈ l, good a := by
  obtain ⟨A, n, c, rfl⟩ := Go.WideShapes.okWide_slice ht hv
  obtain ⟨fuel, hf⟩ := hx
  obtain ⟨l, ⟨A', c', he, hl, hC⟩, hg⟩ := (OpensW.slice ht hc h).opens hf (fun n hn => by
    have := List.all_eq_true.1 hsz _ (DataW.weights_mem_each hj hd n hn)
    simpa using this)
  have he' : [Value.slice A n c] = [Value.slice A' l.length c'] := he
  injection he' with he' _
  injection he' with h1 h2 h3
  subst h1 h2 h3
  exact ⟨A, c, l, rfl, hl, hC, hg.1, hg.2⟩
end Go.Proofs.Ytoafbpbnlmcklaa.Rowx
