/- How an argument's datum, as a row reads it, is told in the printed contracts' words: for every kind of value that these use. No condition. -/
import Derived.Test.YtifdlbdecjlnaaaDoorWWords
import Derived.Deep.Slices
import Derived.OpenShut
namespace Go.Proofs.YtifdlbdecjlnaaaDoor.Rowx
open Go.RowKit Go.Proofs.YtifdlbdecjlnaaaDoorW.PrintWords
variable {P : Program}
/-- Data of type t are of kind d, and 'good' holds of them. -/
structure Opens {α : Type} (P : Program) (t : TypeId) (d : Kd α) (good : α → Prop) : Prop where
  cells : P.cellsOf t = d.sz
  opens : ∀ {H : Type} {enc : TypeId × Value → H} {W : World} {base : Nat} {spare : Nat → Bool} {held : Bool} {fuel : Nat} {cs : List Value} {x : DataW H × List MemPlace},
    DataW.trod enc P W base spare held fuel t cs = some x → ∃ a, d.K W a cs ∧ good a
theorem Opens.int {t : TypeId} {k : IntKind} (ht : P.underlying t = some (.int k)) (hc : P.cellsOf t = 1) : Opens P t (Kd.int k) (fun n => (Lit.int k n).wf = true) := by
  refine ⟨hc, fun {H enc W base spare held fuel cs x} h => ?_⟩
  obtain ⟨n, rfl, _, hw⟩ := DataW.trod_int ht h
  exact ⟨n, rfl, hw⟩
theorem Opens.bool {t : TypeId} (ht : P.underlying t = some .bool) (hc : P.cellsOf t = 1) : Opens P t Kd.bool (fun _ => True) := by
  refine ⟨hc, fun {H enc W base spare held fuel cs x} h => ?_⟩
  obtain ⟨n, rfl, _⟩ := DataW.trod_bool ht h
  exact ⟨n, rfl, trivial⟩
theorem Opens.string {t : TypeId} (ht : P.underlying t = some .string) (hc : P.cellsOf t = 1) : Opens P t Kd.string (fun s => s.size ≤ maxLen) := by
  refine ⟨hc, fun {H enc W base spare held fuel cs x} h => ?_⟩
  obtain ⟨n, rfl, _, hs⟩ := DataW.trod_string ht h
  exact ⟨n, rfl, hs⟩
theorem choose_list {α : Type} (p : Nat → α → Prop) : ∀ n : Nat, (∀ i, i < n → ∃ a, p i a) → ∃ l : List α, l.length = n ∧ ∀ i a, l[i]? = some a → p i a
  | 0, _ => ⟨[], rfl, fun i a h => by simp at h⟩
  | n + 1, h => by
    obtain ⟨l, hl, hp⟩ := choose_list p n (fun i hi => h i (by omega))
    obtain ⟨a, ha⟩ := h n (by omega)
    refine ⟨l ++ [a], by simp [hl], fun i b hb => ?_⟩
    by_cases hi : i < l.length
    · rw [List.getElem?_append_left hi] at hb
      exact hp i b hb
    · have hlt := (List.getElem?_eq_some_iff.1 hb).1
      have e : i = n := by simp at hlt; omega
      subst e
      rw [← hl, List.getElem?_concat_length] at hb
      rw [← Option.some.inj hb]; exact ha
theorem Opens.slice {α : Type} {t e : TypeId} {d : Kd α} {good : α → Prop} (ht : P.underlying t = some (.slice e)) (hc : P.cellsOf t = 1) (he : Opens P e d good) :
    Opens P t (Kd.slice e d) (fun xs => xs.length ≤ maxLen ∧ ∀ x ∈ xs, good x) := by
  refine ⟨hc, fun {H enc W base spare held fuel cs x} h => ?_⟩
  rcases Go.Deep.open_slice ht h with ⟨rfl, _⟩ | ⟨a, len, cap, m, n, D, Pl, rfl, hb, hl, hm, hmm, _, hx⟩
  · exact ⟨[], ⟨none, 0, rfl, Nat.le_refl _, Kd.C_nil _ _⟩, Nat.zero_le _, fun x hx => by cases hx⟩
  · have hlm : len ≤ m := by rw [hmm]; split <;> omega
    have h1 : ∀ i, i < len → ∃ z, good z ∧ ∃ c, c.length = d.sz ∧ d.K W z c ∧ ∀ j u, c[j]? = some u → W.cell? (a.add (i * d.sz + j)) = some u := by
      intro i hi
      obtain ⟨c, h1, h2⟩ := hx i (by omega)
      obtain ⟨z, hz, hg⟩ := he.opens h2
      obtain ⟨_, hcl, hcell⟩ := World.cells?_some h1
      rw [he.cells] at hcl hcell
      refine ⟨z, hg, c, hcl, hz, fun j u hu => ?_⟩
      have hj := (List.getElem?_eq_some_iff.1 hu).1
      rw [← Addr.add_add, hcell j (by omega), hu]
    obtain ⟨l, hll, hp⟩ := choose_list _ len h1
    subst hll
    refine ⟨l, ⟨some a, cap, rfl, hl, rfl, by unfold maxLen at hm; omega, fun _ => ⟨a, rfl, fun j z hz => ?_⟩⟩, by omega, fun z hz => ?_⟩
    · obtain ⟨_, c, hcl, hk, hcell⟩ := hp j z hz
      exact ⟨c, hcl, hk, hcell⟩
    · obtain ⟨j, hj⟩ := List.getElem?_of_mem hz
      exact (hp j z hj).1
/-- Fields, from an offset on. -/
structure OpensF {α : Type} (P : Program) (fs : List Field) (off : Nat) (d : Kd α) (good : α → Prop) : Prop where
  opens : ∀ {H : Type} {enc : TypeId × Value → H} {W : World} {base : Nat} {spare : Nat → Bool} {held : Bool} {n : Nat} {cs : List Value},
    (∀ f ∈ fs, ∃ y, DataW.trod enc P W base spare held n f.type ((cs.drop f.offset).take (P.cellsOf f.type)) = some y) → cs.length = off + d.sz → ∃ a, d.K W a (cs.drop off) ∧ good a
theorem OpensF.last {α : Type} {f : Field} {off : Nat} {d : Kd α} {good : α → Prop} (ho : f.offset = off) (h : Opens P f.type d good) : OpensF P [f] off d good := by
  refine ⟨fun {H enc W base spare held n cs} hf hl => ?_⟩
  obtain ⟨y, hy⟩ := hf f (by simp)
  rw [h.cells, ho, List.take_of_length_le (by rw [List.length_drop]; omega)] at hy
  exact h.opens hy
theorem OpensF.cons {α β : Type} {f : Field} {fs : List Field} {off : Nat} {d : Kd α} {ds : Kd β} {good : α → Prop} {goods : β → Prop} (ho : f.offset = off) (h : Opens P f.type d good) (hs : OpensF P fs (off + d.sz) ds goods) :
    OpensF P (f :: fs) off (Kd.pair d ds) (fun x => good x.1 ∧ goods x.2) := by
  refine ⟨fun {H enc W base spare held n cs} hf hl => ?_⟩
  obtain ⟨y, hy⟩ := hf f (by simp)
  rw [h.cells, ho] at hy
  have hl' : cs.length = off + (d.sz + ds.sz) := hl
  obtain ⟨a, ha, hg⟩ := h.opens hy
  obtain ⟨b, hb, hgs⟩ := hs.opens (fun g hg => hf g (by simp [hg])) (by omega)
  refine ⟨(a, b), ⟨_, _, ?_, ha, hb⟩, hg, hgs⟩
  rw [← List.drop_drop, List.take_append_drop]
theorem Opens.struct {α : Type} {t : TypeId} {fs : Array Field} {d : Kd α} {good : α → Prop} (ht : P.underlying t = some (.struct fs)) (hc : P.cellsOf t = d.sz) (h : OpensF P fs.toList 0 d good) : Opens P t d good := by
  refine ⟨hc, fun {H enc W base spare held fuel cs x} hx => ?_⟩
  obtain ⟨xs, n, _, _, hl, hlen, hf⟩ := DataW.trod_struct ht hx
  have := h.opens (enc := enc) (W := W) (base := base) (spare := spare) (held := held) (n := n) (cs := cs) (fun f hm => ?_) (by omega)
  · simpa using this
  · obtain ⟨i, hi⟩ := List.getElem?_of_mem hm
    rw [Array.getElem?_toList] at hi
    have hy := hf i f hi
    have hlt : i < xs.length := by rw [hlen]; exact (Array.getElem?_eq_some_iff.1 hi).1
    rw [List.getElem?_eq_getElem hlt] at hy
    exact ⟨_, hy⟩
theorem Opens.iso {α β : Type} {t : TypeId} {d : Kd α} {good : α → Prop} (h : Opens P t d good) (f : β → α) (g : α → β) (hfg : ∀ a, f (g a) = a) : Opens P t (Kd.iso d f) (fun b => good (f b)) := by
  refine ⟨h.cells, fun {H enc W base spare held fuel cs x} hx => ?_⟩
  obtain ⟨a, ha, hg⟩ := h.opens hx
  exact ⟨g a, by show d.K W (f (g a)) cs; rw [hfg]; exact ha, by rw [hfg]; exact hg⟩
/-- A struct by value, opened. -/
theorem open_struct {α : Type} {t : TypeId} {fs : Array Field} {d : Kd α} {good : α → Prop} (ht : P.underlying t = some (.struct fs)) (h : Opens P t d good) {H : Type} {enc : TypeId × Value → H} {W : World} {r : Reach} {b0 base : Nat} {spare : Nat → Bool} {held : Bool} {v : Value} {x : DataW H} {ps : List MemPlace}
    (hv : Value.okWide P W r b0 t v) (hx : DataW.Trod enc P W base spare held t v x ps) : ∃ (cs : Array Value) (a : α), v = .agg cs ∧ d.K W a cs.toList ∧ good a := by
  obtain ⟨cs, rfl, hsz⟩ := Go.WideShapes.okWide_struct ht hv
  obtain ⟨fuel, hf⟩ := hx
  obtain ⟨a, ha, hg⟩ := h.opens hf
  exact ⟨cs, a, rfl, ha, hg⟩
/-- A slice, opened. -/
theorem open_row {α : Type} {t e : TypeId} {d : Kd α} {good : α → Prop} (ht : P.underlying t = some (.slice e)) (hc : P.cellsOf t = 1) (h : Opens P e d good) {H : Type} {enc : TypeId × Value → H} {W : World} {r : Reach} {b0 base : Nat} {spare : Nat → Bool} {held : Bool} {v : Value} {x : DataW H} {ps : List MemPlace}
    (hv : Value.okWide P W r b0 t v) (hx : DataW.Trod enc P W base spare held t v x ps) : ∃ (A : Option Addr) (c : Nat) (l : List α), v = .slice A l.length c ∧ l.length ≤ c ∧ d.C W A l.length l ∧ l.length ≤ maxLen ∧ ∀ a ∈ l, good a := by
  obtain ⟨A, n, c, rfl⟩ := Go.WideShapes.okWide_slice ht hv
  obtain ⟨fuel, hf⟩ := hx
  obtain ⟨l, ⟨A', c', he, hl, hC⟩, hg⟩ := (Opens.slice ht hc h).opens hf
  have he' : [Value.slice A n c] = [Value.slice A' l.length c'] := he
  injection he' with he' _
  injection he' with h1 h2 h3
  subst h1 h2 h3
  exact ⟨A, c, l, rfl, hl, hC, hg.1, hg.2⟩
end Go.Proofs.YtifdlbdecjlnaaaDoor.Rowx
