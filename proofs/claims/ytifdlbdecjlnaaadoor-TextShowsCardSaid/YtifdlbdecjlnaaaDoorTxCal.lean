/- What the library's functions answer, at the strings of the text layer. Conditions: those that each theorem states. -/
import Derived.Test.YtifdlbdecjlnaaaDoorTxLib
import Derived.Test.YtifdlbdecjlnaaaDoorShelf
import Derived.Lib.AtoiErrMem
namespace Go.Proofs.YtifdlbdecjlnaaaDoor.PAll
open Go.RowKit Go.Proofs.YtifdlbdecjlnaaaDoorW.PrintWords Go.Proofs.YtifdlbdecjlnaaaDoorW.PrintLast Go.Proofs.YtifdlbdecjlnaaaDoorW.PrintMore
set_option linter.unusedVariables false
set_option linter.unusedSimpArgs false

theorem cut_yes (c : UInt8) (r : List UInt8) (w : World) : Calls Tryd.prog 38 #[.string (Str (c :: r)), .string ⟨#[c]⟩] w fun e w' => e = .returned (.tuple #[.string (Str r), .bool true]) ∧ w' = w := by
  refine (Tryd.strings_CutPrefix (Str (c :: r)) ⟨#[c]⟩ w).mono fun e w' ⟨h1, h2⟩ => ⟨h1.trans ?_, h2⟩
  rw [Str_data]
  simp [Lib.trimPrefix, Lib.hasPrefix, Str]
theorem cut_no (c : UInt8) (l : List UInt8) (h : ∀ r, l ≠ c :: r) (w : World) : Calls Tryd.prog 38 #[.string (Str l), .string ⟨#[c]⟩] w fun e w' => e = .returned (.tuple #[.string (Str l), .bool false]) ∧ w' = w := by
  refine (Tryd.strings_CutPrefix (Str l) ⟨#[c]⟩ w).mono fun e w' ⟨h1, h2⟩ => ⟨h1.trans ?_, h2⟩
  rw [Str_data]
  have hp : Lib.hasPrefix l [c] = false := by
    cases l with
    | nil => rfl
    | cons a r =>
      have hne : ¬ c = a := fun he => h r (by rw [he])
      simp [Lib.hasPrefix, List.isPrefixOf, hne]
  simp [Lib.trimPrefix, hp, Str]
theorem ixb_none : ∀ (l : List UInt8), (∀ b ∈ l, b ≠ 32) → Lib.indexByte l 32 = -1
  | [], _ => rfl
  | b :: l, h => by
    have hb : ¬ b = 32 := h b (List.mem_cons_self ..)
    have ih := ixb_none l fun c hc => h c (List.mem_cons_of_mem _ hc)
    simp [Lib.indexByte, hb, ih]
theorem ixb_at (r : List UInt8) : ∀ (t : List UInt8), (∀ b ∈ t, b ≠ 32) → Lib.indexByte (t ++ 32 :: r) 32 = (t.length : Int)
  | [], _ => by simp [Lib.indexByte]
  | b :: t, h => by
    have hb : ¬ b = 32 := h b (List.mem_cons_self ..)
    have ih := ixb_at r t fun c hc => h c (List.mem_cons_of_mem _ hc)
    have hn : ¬ ((t.length : Int) = -1) := by omega
    simp [Lib.indexByte, hb, ih, hn]
theorem idx_none (l : List UInt8) (h : ∀ b ∈ l, b ≠ 32) (w : World) : Calls Tryd.prog 39 #[.string (Str l), .int .u8 32] w fun e w' => e = .returned (.int .i64 (-1)) ∧ w' = w := by
  refine (Tryd.strings_IndexByte (Str l) 32 w).mono fun e w' ⟨h1, h2⟩ => ⟨h1.trans ?_, h2⟩
  rw [Str_data, show (32 : Int).toNat.toUInt8 = (32 : UInt8) from rfl, ixb_none l h]
theorem idx_at (t r : List UInt8) (h : ∀ b ∈ t, b ≠ 32) (w : World) : Calls Tryd.prog 39 #[.string (Str (t ++ 32 :: r)), .int .u8 32] w fun e w' => e = .returned (.int .i64 (t.length : Int)) ∧ w' = w := by
  refine (Tryd.strings_IndexByte (Str (t ++ 32 :: r)) 32 w).mono fun e w' ⟨h1, h2⟩ => ⟨h1.trans ?_, h2⟩
  rw [Str_data, show (32 : Int).toNat.toUInt8 = (32 : UInt8) from rfl, ixb_at r t h]
def kindWords : List (List UInt8) := [[110, 111, 112], [111, 112, 101, 110], [106, 111, 105, 110], [108, 101, 97, 118, 101], [112, 111, 115, 116], [101, 100, 105, 116], [100, 101, 108, 101, 116, 101], [102, 101, 116, 99, 104]]
def kindAt : List (List UInt8) → List UInt8 → Int → Int
  | [], _, _ => -1
  | z :: zs, x, i => if z = x then i else kindAt zs x (i + 1)
def kindOf (x : List UInt8) : Int := kindAt kindWords x 0
def wordsBlk (w : World) (g : Nat) : Prop := w.heap[g]? = some (.cells (kindWords.map fun x => Value.string (Str x)).toArray 9 (0, 0))
theorem words_l (w : World) : Calls Tryd.prog 16 #[] w fun e w' => e = .returned (.slice (some ⟨w.heap.size, 0, none⟩) 8 8) ∧ wordsBlk w' w.heap.size ∧ Below w.heap.size w w' := by
  go_enter Tryd.func16, Tryd.ntmps16
  go_wp2
  go_ret
  refine ⟨rfl, ?_, (Below.refl _ _).alloc (Nat.le_refl _) _⟩
  exact (Array.getElem?_push_size (xs := w.heap))
theorem kindAt_idx (x : List UInt8) : ∀ (zs : List (List UInt8)) (i : Nat), Lib.idxFromS (zs.map Str) (Str x) i = kindAt zs x (i : Int)
  | [], i => rfl
  | z :: zs, i => by
    have ih := kindAt_idx x zs (i + 1)
    by_cases h : z = x
    · simp [Lib.idxFromS, kindAt, h]
    · have h' : ¬ Str z = Str x := fun k => h (Str_inj k)
      simp only [List.map_cons, Lib.idxFromS, kindAt, if_neg h, if_neg h']
      exact ih
theorem index_l (g : Nat) (x : List UInt8) (w : World) (hg : wordsBlk w g) : Calls Tryd.prog 40 #[.slice (some ⟨g, 0, none⟩) 8 8, .string (Str x)] w fun e w' => e = .returned (.int .i64 (kindOf x)) ∧ w' = w := by
  have hz : (kindWords.map Str).length = 8 := rfl
  refine (Tryd.slices_Index_string g 0 8 8 (kindWords.map Str) (Str x) w (by rw [hz]; omega) (by omega) ?_).mono fun e w' ⟨h1, h2⟩ => ⟨h1.trans ?_, h2⟩
  · intro j hj
    rw [hz] at hj
    rw [cell_of_row w g (0 + j) _ _ _ hg]
    match j, hj with
    | 0, _ => rfl
    | 1, _ => rfl
    | 2, _ => rfl
    | 3, _ => rfl
    | 4, _ => rfl
    | 5, _ => rfl
    | 6, _ => rfl
    | 7, _ => rfl
  · rw [List.take_of_length_le (by rw [hz]; omega)]
    unfold Lib.idxOfS kindOf
    rw [kindAt_idx x kindWords 0]
    rfl
def isDig (b : UInt8) : Bool := decide (48 ≤ b.toNat ∧ b.toNat ≤ 57)
def decVal (d : List UInt8) : Nat := d.foldl (fun a b => 10 * a + (b.toNat - 48)) 0
set_option maxRecDepth 100000 in
theorem dig_mem (b : UInt8) : ([48, 49, 50, 51, 52, 53, 54, 55, 56, 57] : List UInt8).contains b = isDig b := by
  have : ∀ n : Fin 256, ([48, 49, 50, 51, 52, 53, 54, 55, 56, 57] : List UInt8).contains (UInt8.ofNat n.val) = isDig (UInt8.ofNat n.val) := by decide
  have h := this ⟨b.toNat, b.toNat_lt⟩
  simpa using h
theorem trim_l (l : List UInt8) (w : World) : Calls Tryd.prog 36 #[.string (Str l), .string ⟨#[48, 49, 50, 51, 52, 53, 54, 55, 56, 57]⟩] w fun e w' => e = .returned (.string (Str (l.dropWhile isDig))) ∧ Below w.heap.size w w' := by
  refine (Any.strings_TrimLeft_laid Tryd.lays161 (by kernel_rfl) (Str l) ⟨#[48, 49, 50, 51, 52, 53, 54, 55, 56, 57]⟩ w (by decide) (ascii_of_all (by decide))).mono fun e w' ⟨h1, h2⟩ => ⟨h1.trans ?_, h2⟩
  rw [Str_data]
  unfold Lib.trimLeftS
  have hf : (fun b : UInt8 => ([48, 49, 50, 51, 52, 53, 54, 55, 56, 57] : List UInt8).contains b) = isDig := funext dig_mem
  show _ = Ending.returned (.string (Str (l.dropWhile isDig)))
  rw [← hf]
  rfl
theorem dec_from : ∀ (d : List UInt8), (∀ b ∈ d, isDig b = true) → ∀ acc, Lib.decFrom acc d = some (d.foldl (fun a b => 10 * a + (b.toNat - 48)) acc)
  | [], _, acc => rfl
  | b :: d, h, acc => by
    have hb := h b (List.mem_cons_self ..)
    have hb' : 48 ≤ b.toNat ∧ b.toNat ≤ 57 := by simpa [isDig] using hb
    have ih := dec_from d (fun c hc => h c (List.mem_cons_of_mem _ hc)) (acc * 10 + (b.toNat - 48))
    simp only [Lib.decFrom, Lib.digitVal, if_pos hb', List.foldl_cons]
    rw [ih, Nat.mul_comm acc 10]
theorem atoi_dig (d : List UInt8) (h : ∀ b ∈ d, isDig b = true) (h1 : 1 ≤ d.length) : Lib.atoi d = some (decVal d : Nat) := by
  cases d with
  | nil => simp at h1
  | cons b d =>
    have hb : 48 ≤ b.toNat ∧ b.toNat ≤ 57 := by simpa [isDig] using h b (List.mem_cons_self ..)
    have n1 : ¬ b = 45 := fun he => by rw [he] at hb; exact absurd hb.1 (by decide)
    have n2 : ¬ b = 43 := fun he => by rw [he] at hb; exact absurd hb.1 (by decide)
    simp only [Lib.atoi, beq_iff_eq, if_neg n1, if_neg n2, Lib.decNat, List.isEmpty_cons, Bool.false_eq_true, if_false, dec_from (b :: d) h 0, Option.map_some]
    rfl
theorem atoi_l (d : List UInt8) (h : ∀ b ∈ d, isDig b = true) (h1 : 1 ≤ d.length) (h2 : d.length ≤ 10) (w : World) : Calls Tryd.prog 37 #[.string (Str d)] w fun e w' => e = .returned (.tuple #[.int .i64 (decVal d : Nat), .nilIface]) ∧ Below w.heap.size w w' := by
  refine (Tryd.strconv_Atoi (Str d) (decVal d : Nat) (by rw [Str_size]; omega) (by rw [Str_data]; exact atoi_dig d h h1) w).mono fun e w' ⟨h2, t, h3⟩ => ⟨h2, ?_⟩
  rw [h3]
  exact Lib.bytesWorld_below _ _ _

theorem space_yes (b : Nat) (r : List UInt8) (w : World) (hb : Ln b (32 :: r) w) : Calls Tryd.prog 35 #[.pointer (some ⟨b, 0, none⟩)] w fun e w' => e = .returned (.tuple #[]) ∧ w' = w.setCell ⟨b, 0, none⟩ (.string (Str r)) := by
  have hc := hb.cell
  have hz := hb.frozen
  go_enter Tryd.func35, Tryd.ntmps35
  go_wp2_with (first | (go_at_call 38; refine (cut_yes 32 r _).mono ?_; rintro e w' ⟨rfl, rfl⟩) | (go_at_call 25; refine (fail_no _ _ _).mono ?_; rintro e w' ⟨rfl, rfl⟩))
  go_end0
  exact ⟨rfl, rfl⟩
theorem space_no (b : Nat) (l : List UInt8) (hl : ∀ r, l ≠ 32 :: r) (w : World) (hb : Ln b l w) : Calls Tryd.prog 35 #[.pointer (some ⟨b, 0, none⟩)] w fun e w' => e = .panicked (Wr 2) ∧ w' = w := by
  have hc := hb.cell
  have hz := hb.frozen
  go_enter Tryd.func35, Tryd.ntmps35
  go_wp2_with (first | (go_at_call 38; refine (cut_no 32 l hl _).mono ?_; rintro e w' ⟨rfl, rfl⟩) | (go_at_call 25; refine (fail_yes _ _ _).mono ?_; rintro e w' ⟨rfl, rfl⟩))
  exact ⟨rfl, rfl, rfl⟩
end Go.Proofs.YtifdlbdecjlnaaaDoor.PAll
