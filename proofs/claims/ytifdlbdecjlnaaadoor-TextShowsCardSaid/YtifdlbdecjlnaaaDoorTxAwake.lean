/- The chapter's examples. Conditions: those that each theorem states. -/
import Derived.Test.YtifdlbdecjlnaaaDoorTxParse
import Derived.Test.YtifdlbdecjlnaaaDoorTxMay
namespace Go.Proofs.YtifdlbdecjlnaaaDoor.PAll
open Go.RowKit Go.Proofs.YtifdlbdecjlnaaaDoorW.PrintWords Go.Proofs.YtifdlbdecjlnaaaDoorW.PrintLast Go.Proofs.YtifdlbdecjlnaaaDoorW.PrintMore
set_option linter.unusedVariables false
set_option linter.unusedSimpArgs false
def parseR (l : List UInt8) : (Int × Int × Int × List UInt8) × Int :=
  match parseS mayS l with
  | .ok c => (c, 0)
  | .error x => ((0, 0, 0, []), x)
theorem Tabs.below {w w' : World} (h : Tabs w) (hb : Below w.heap.size w w') : Tabs w' := Utf8Tabs_below h hb
theorem Tabs.belowA {w w' : World} (h : Aside0 (Tabs w)) (hb : Below w.heap.size w w') : Aside0 (Tabs w') := ⟨h.out.below hb⟩
theorem parse_c (l : List UInt8) (hl : l.length < 1000000) (w : World) (hT : Tabs w) (k n m : Int) (t : List UInt8) (x : Int) (hp : parseR l = ((k, n, m, t), x)) : Calls Tryd.prog 10 #[.string (Str l)] w fun e w' => e = .returned (.tuple #[.agg (cmdV k n m (Str t)), .int .i64 x]) ∧ Below w.heap.size w w' := by
  refine (parse_w mayS l hl w fun s w1 hs hb => may_w s (by omega) w1 (hT.below hb)).mono fun e w' h => ?_
  unfold parseR at hp
  rcases h with ⟨k', n', m', t', h1, h2, h3⟩ | ⟨x', h1, h2, h3⟩
  · rw [h1] at hp
    cases hp
    exact ⟨h2, h3⟩
  · rw [h1] at hp
    cases hp
    exact ⟨h2, h3⟩
theorem cmd_new {w0 w1 : World} (cs : Array Value) (hB : Aside0 (Below w0.heap.size w0 w1)) (hT : Aside0 (Tabs w1)) : Aside0 (Below w0.heap.size w0 (w1.alloc (.cells cs 24))) ∧ Aside0 (Tabs (w1.alloc (.cells cs 24))) ∧ Aside0 ((w1.alloc (.cells cs 24)).heap[w1.heap.size]? = some (.cells cs 24 (0, 0))) :=
  ⟨⟨hB.out.alloc hB.out.size _⟩, ⟨hT.out.below ((Below.refl _ _).alloc (Nat.le_refl _) _)⟩, ⟨Array.getElem?_push_size (xs := w1.heap)⟩⟩
theorem step_new {w0 w1 w2 : World} (hB : Aside0 (Below w0.heap.size w0 w1)) (hT : Aside0 (Tabs w1)) (h : Below w1.heap.size w1 w2) : Aside0 (Below w0.heap.size w0 w2) ∧ Aside0 (Tabs w2) :=
  ⟨⟨hB.out.trans (h.mono hB.out.size)⟩, ⟨hT.out.below h⟩⟩
theorem blk_new {w1 w2 : World} {g : Nat} {o : Obj} (h : Aside0 (w1.heap[g]? = some o)) (hb : Below w1.heap.size w1 w2) : Aside0 (w2.heap[g]? = some o) := ⟨(hb.block g (blk_lt h.out)).trans h.out⟩
theorem cmd_cells {w : World} {c : Nat} {k n m : Int} {t : ByteArray} (h : Aside0 (w.heap[c]? = some (.cells (cmdV k n m t) 24 (0, 0)))) :
    w.cell? ⟨c, 0, none⟩ = some (.int .i64 0) ∧ w.cell? ⟨c, 1, none⟩ = some (.int .i64 0) ∧ w.cell? ⟨c, 2, none⟩ = some (.int .i64 k) ∧ w.cell? ⟨c, 3, none⟩ = some (.int .i64 n) ∧ w.cell? ⟨c, 4, none⟩ = some (.int .i64 m) ∧ w.cell? ⟨c, 5, none⟩ = some (.string t) := by
  refine ⟨?_, ?_, ?_, ?_, ?_, ?_⟩
  all_goals (rw [cell_of_row _ c _ _ _ _ h.out]; rfl)
theorem cmd_cellsA {w : World} {c : Nat} {k n m : Int} {t : ByteArray} (h : Aside0 (w.heap[c]? = some (.cells (cmdV k n m t) 24 (0, 0)))) :
    (∀ o, (w.alloc o).cell? ⟨c, 0, none⟩ = some (.int .i64 0)) ∧ (∀ o, (w.alloc o).cell? ⟨c, 1, none⟩ = some (.int .i64 0)) ∧ (∀ o, (w.alloc o).cell? ⟨c, 2, none⟩ = some (.int .i64 k)) ∧ (∀ o, (w.alloc o).cell? ⟨c, 3, none⟩ = some (.int .i64 n)) ∧ (∀ o, (w.alloc o).cell? ⟨c, 4, none⟩ = some (.int .i64 m)) ∧ (∀ o, (w.alloc o).cell? ⟨c, 5, none⟩ = some (.string t)) := by
  have k := fun o => cmd_cells (blk_new h ((Below.refl w.heap.size w).alloc (Nat.le_refl _) o))
  exact ⟨fun o => (k o).1, fun o => (k o).2.1, fun o => (k o).2.2.1, fun o => (k o).2.2.2.1, fun o => (k o).2.2.2.2.1, fun o => (k o).2.2.2.2.2⟩
theorem aw1 : parseR [47, 112, 111, 115, 116, 32, 51, 32, 104, 101, 108, 108, 111, 32, 121, 111, 117] = ((4, 3, 0, [104, 101, 108, 108, 111, 32, 121, 111, 117]), 0) := by kernel_rfl
theorem aw2 : parseR [47, 106, 111, 105, 110, 32, 48, 51] = ((0, 0, 0, []), 2) := by kernel_rfl
theorem aw3 : parseR [47, 101, 100, 105, 116, 32, 49] = ((0, 0, 0, []), 2) := by kernel_rfl
set_option maxHeartbeats 1000000 in
set_option maxRecDepth 100000 in
theorem awake_w (w : World) (hT : Tabs w) : Calls Tryd.prog 9 #[] w fun e w' => e = .returned (.bool true) ∧ Below w.heap.size w w' := by
  have c1 := fun w hT => parse_c _ (by decide) w hT _ _ _ _ _ aw1
  have c2 := fun w hT => parse_c _ (by decide) w hT _ _ _ _ _ aw2
  have c3 := fun w hT => parse_c _ (by decide) w hT _ _ _ _ _ aw3
  unfold Str cmdV at c1 c2 c3
  have hT0 := Aside0.mk hT
  have hB0 := Aside0.mk (Below.refl w.heap.size w)
  clear hT
  go_enter Tryd.func9, Tryd.ntmps9
  go_wp2_with (go_at_call 10; refine (c1 _ hT0.out).mono ?_; rintro e w1 ⟨rfl, hb⟩; obtain ⟨hB1, hT1⟩ := step_new hB0 hT0 hb; clear hb c1)
  obtain ⟨hB2, hT2, G2⟩ := cmd_new (cmdV 4 3 0 (Str [104, 101, 108, 108, 111, 32, 121, 111, 117])) hB1 hT1
  unfold cmdV Str at hB2 hT2 G2
  revert hB2 hT2 G2
  generalize (w1.alloc (.cells #[.int .i64 0, .int .i64 0, .int .i64 4, .int .i64 3, .int .i64 0, .string ⟨#[104, 101, 108, 108, 111, 32, 121, 111, 117]⟩] 24)) = w2
  intro hB2 hT2 G2
  generalize w1.heap.size = g at G2 ⊢
  refine (c2 _ hT2.out).mono ?_
  rintro e w3 ⟨rfl, hb⟩
  obtain ⟨hB3, hT3⟩ := step_new hB2 hT2 hb
  have G3 := blk_new G2 hb
  clear hb c2 hB0 hB1 hB2 hT0 hT1 hT2 G2
  go_wp2_with (fail)
  obtain ⟨hB4, hT4, _⟩ := cmd_new (cmdV 0 0 0 (Str [])) hB3 hT3
  have G4 := blk_new G3 ((Below.refl w3.heap.size w3).alloc (Nat.le_refl _) (.cells (cmdV 0 0 0 (Str [])) 24))
  unfold cmdV Str at hB4 hT4 G4
  revert hB4 hT4 G4
  generalize (w3.alloc (.cells #[.int .i64 0, .int .i64 0, .int .i64 0, .int .i64 0, .int .i64 0, .string ⟨#[]⟩] 24)) = w4
  intro hB4 hT4 G4
  generalize w3.heap.size = g3
  refine (c3 _ hT4.out).mono ?_
  rintro e w5 ⟨rfl, hb⟩
  obtain ⟨hB5, hT5⟩ := step_new hB4 hT4 hb
  have G5 := blk_new G4 hb
  clear hb c3 hB3 hB4 hT3 hT4 G3 G4
  obtain ⟨q0, q1, q2, q3, q4, q5⟩ := cmd_cellsA G5
  clear G5
  go_wp2_with (fail)
  go_ret
  exact ⟨rfl, hB5.out.alloc hB5.out.size _⟩
end Go.Proofs.YtifdlbdecjlnaaaDoor.PAll
