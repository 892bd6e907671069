/- The words of the text layer's walks: strings as lists of bytes, the line's block, and what the library's functions answer. Conditions: those that each theorem states. -/
import Derived.Test.YtifdlbdecjlnaaaDoorPAllx0
import Derived.Defers
import Derived.Recover
import Derived.Below
import Derived.Lib.ValidU
import Derived.Lib.Strings
import Derived.Lib.Bytealg
import Derived.Lib.ItoaNum
namespace Go.Proofs.YtifdlbdecjlnaaaDoor.PAll
open Go.RowKit Go.Proofs.YtifdlbdecjlnaaaDoorW.PrintWords Go.Proofs.YtifdlbdecjlnaaaDoorW.PrintLast Go.Proofs.YtifdlbdecjlnaaaDoorW.PrintMore
set_option linter.unusedVariables false
set_option linter.unusedSimpArgs false

/-- A string by its bytes. -/
def Str (l : List UInt8) : ByteArray := ⟨l.toArray⟩
theorem Str_data (l : List UInt8) : (Str l).data.toList = l := by simp [Str]
theorem Str_size (l : List UInt8) : (Str l).size = l.length := by simp [Str, ByteArray.size]
theorem Str_of (s : ByteArray) : Str s.data.toList = s := by simp [Str]
theorem Str_ext (s : ByteArray) : ∃ l, s = Str l := ⟨_, (Str_of s).symm⟩
theorem Str_inj {a b : List UInt8} (h : Str a = Str b) : a = b := by have := congrArg (fun s => s.data.toList) h; simpa only [Str_data] using this
theorem Str_extract (l : List UInt8) (i j : Nat) : (Str l).extract i j = Str ((l.take j).drop i) := by
  have h : ((Str l).extract i j).data.toList = (l.take j).drop i := by
    simp [Str, List.drop_take]
  rw [← Str_of ((Str l).extract i j), h]
theorem Str_append (a b : List UInt8) : Str a ++ Str b = Str (a ++ b) := by
  have h : (Str a ++ Str b).data.toList = a ++ b := by
    simp [Str]
  rw [← Str_of (Str a ++ Str b), h]

/-- What 'fail' panics with. -/
def Wr (e : Int) : List PanicEntry := [{ v := .iface 37 (.agg #[.int .i64 e]), recovered := false }]

/-- The line's block holds s. -/
def Ln (b : Nat) (l : List UInt8) (w : World) : Prop := w.heap[b]? = some (.cells #[.string (Str l)] 40 (0, 0))
theorem Ln.lt {b : Nat} {l : List UInt8} {w : World} (h : Ln b l w) : b < w.heap.size := by
  unfold Ln at h
  by_cases hb : b < w.heap.size
  · exact hb
  · rw [Array.getElem?_eq_none (by omega)] at h; cases h
theorem Ln.cell {b : Nat} {l : List UInt8} {w : World} (h : Ln b l w) : w.cell? ⟨b, 0, none⟩ = some (.string (Str l)) := by
  unfold Ln at h
  simp [World.cell?, h]
theorem Ln.frozen {b : Nat} {l : List UInt8} {w : World} (h : Ln b l w) : w.frozen? ⟨b, 0, none⟩ = false := by
  unfold Ln at h
  simp [World.frozen?, h]

/-- Behind a call: the line's block holds s; of what was there else nothing has turned. -/
structure Held (b : Nat) (l : List UInt8) (w0 w : World) : Prop where
  os : w.os = w0.os
  tape : w.tape = w0.tape
  output : w.output = w0.output
  size : w0.heap.size ≤ w.heap.size
  block : ∀ k, k < w0.heap.size → k ≠ b → w.heap[k]? = w0.heap[k]?
  line : Ln b l w
theorem Held.refl {b : Nat} {l : List UInt8} {w : World} (h : Ln b l w) : Held b l w w := ⟨rfl, rfl, rfl, Nat.le_refl _, fun _ _ _ => rfl, h⟩
theorem Held.below {b : Nat} {l : List UInt8} {w0 w w' : World} (h : Held b l w0 w) (hb : Below w.heap.size w w') : Held b l w0 w' :=
  ⟨hb.os.trans h.os, hb.tape.trans h.tape, hb.output.trans h.output, Nat.le_trans h.size hb.size, fun k hk hn => (hb.block k (Nat.lt_of_lt_of_le hk h.size)).trans (h.block k hk hn), (hb.block b h.line.lt).trans h.line⟩
theorem Held.set {b : Nat} {l : List UInt8} {w0 w : World} (h : Held b l w0 w) (r : List UInt8) : Held b r w0 (w.setCell ⟨b, 0, none⟩ (.string (Str r))) :=
  ⟨h.os, h.tape, h.output, by simpa [World.setCell] using h.size, fun k hk hn => (Below.heap_setCell _ _ _ _ hn).trans (h.block k hk hn), by
    have := h.line
    unfold Ln at this ⊢
    simp [World.setCell, Array.getElem?_modify, this]⟩
theorem Held.trans {b : Nat} {l r : List UInt8} {w0 w w' : World} (h : Held b l w0 w) (k : Held b r w w') : Held b r w0 w' :=
  ⟨k.os.trans h.os, k.tape.trans h.tape, k.output.trans h.output, Nat.le_trans h.size k.size, fun i hi hn => (k.block i (Nat.lt_of_lt_of_le hi h.size) hn).trans (h.block i hi hn), k.line⟩
theorem Held.drew {b : Nat} {l : List UInt8} {w0 w : World} (h : Held b l w0 w) : Held b l w0 w.drew := ⟨h.os, h.tape, h.output, h.size, h.block, h.line⟩

theorem fail_no (L : Value) (e : Int) (w : World) : Calls Tryd.prog 25 #[L, .bool true, .int .i64 e] w fun x w' => x = .returned (.tuple #[]) ∧ w' = w := by
  go_enter Tryd.func25, Tryd.ntmps25
  go_wp2
  go_end0
  exact ⟨rfl, rfl⟩
theorem fail_yes (L : Value) (e : Int) (w : World) : Calls Tryd.prog 25 #[L, .bool false, .int .i64 e] w fun x w' => x = .panicked (Wr e) ∧ w' = w := by
  go_enter Tryd.func25, Tryd.ntmps25
  go_wp2
  exact ⟨rfl, rfl, rfl⟩
end Go.Proofs.YtifdlbdecjlnaaaDoor.PAll
