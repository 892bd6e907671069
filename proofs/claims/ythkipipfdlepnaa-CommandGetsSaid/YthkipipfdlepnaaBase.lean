/- Plain lemmas on whole numbers and lists that all layers' laws use. -/
import Derived.Test.YthkipipfdlepnaaPAllx0
namespace Go.Proofs.Ythkipipfdlepnaa.Pure
open Go.RowKit Go.Proofs.Ythkipipfdlepnaa.PAll Go.Proofs.YthkipipfdlepnaaW.PrintWords Go.Proofs.YthkipipfdlepnaaW.PrintLast Go.Proofs.YthkipipfdlepnaaW.PrintMore
theorem wrap64_id {a : Int} (h0 : -9223372036854775808 ≤ a) (h1 : a ≤ 9223372036854775807) : wrap64 a = a := by unfold wrap64; omega
theorem wraps62 (n : Int) (h0 : 0 ≤ n) (h1 : n < 2 ^ 62) : IntKind.i64.wrap n = n := by rw [IntKind.wrap_i64]; omega
theorem wraps32 (n : Int) (h0 : 0 ≤ n) (h1 : n < 2 ^ 32) : IntKind.u32.wrap n = n := by rw [IntKind.wrap_u32]; omega
theorem getD_lt {α : Type} {l : List α} {i : Nat} (h : i < l.length) (d : α) : l.getD i d = l[i] := by simp [h]
theorem drop_cons_getD {α : Type} {l : List α} {i : Nat} (h : i < l.length) (d : α) : l.drop i = l.getD i d :: l.drop (i + 1) := by
  rw [getD_lt h]; exact List.drop_eq_getElem_cons h
theorem idx_step {i : Nat} (h : i < 1099511627776) : wrap64 ((i : Int) + 1) = ((i + 1 : Nat) : Int) := by
  rw [wrap64_id (by omega) (by omega)]; omega
theorem mx_max (a b : Int) : mx a b = max a b := by unfold mx; omega
theorem mn_min (a b : Int) : mn a b = min a b := by unfold mn; omega
/-- Bytes. -/
def Bs (l : List Int) : Prop := ∀ c ∈ l, 0 ≤ c ∧ c < 256
theorem Bs.nil : Bs [] := by intro c h; cases h
theorem Bs.cons {c : Int} {l : List Int} (h : 0 ≤ c ∧ c < 256) (hl : Bs l) : Bs (c :: l) := by
  intro x hx
  rcases List.mem_cons.1 hx with rfl | hx
  · exact h
  · exact hl x hx
theorem Bs.append {a b : List Int} (ha : Bs a) (hb : Bs b) : Bs (a ++ b) := by
  intro x hx
  rcases List.mem_append.1 hx with hx | hx
  · exact ha x hx
  · exact hb x hx
theorem Bs.head {c : Int} {l : List Int} (h : Bs (c :: l)) : 0 ≤ c ∧ c < 256 := h c (by simp)
theorem Bs.tail {c : Int} {l : List Int} (h : Bs (c :: l)) : Bs l := fun x hx => h x (by simp [hx])
theorem Bs.left {a b : List Int} (h : Bs (a ++ b)) : Bs a := fun x hx => h x (by simp [hx])
theorem Bs.right {a b : List Int} (h : Bs (a ++ b)) : Bs b := fun x hx => h x (by simp [hx])
theorem Bs.take {l : List Int} (h : Bs l) (k : Nat) : Bs (l.take k) := fun x hx => h x (List.mem_of_mem_take hx)
theorem Bs.drop {l : List Int} (h : Bs l) (k : Nat) : Bs (l.drop k) := fun x hx => h x (List.mem_of_mem_drop hx)
theorem Bs.get {l : List Int} (h : Bs l) {i : Nat} (hi : i < l.length) : 0 ≤ l.getD i 0 ∧ l.getD i 0 < 256 := h _ (by rw [getD_lt hi]; exact List.getElem_mem hi)
theorem Bs.of {l : List Int} (h : ∀ x ∈ l, (Lit.int .u8 x).wf = true) : Bs l := by
  intro c hc
  have := h c hc
  simp [Lit.wf, IntKind.min, IntKind.max, IntKind.signed, IntKind.bits] at this
  omega
theorem i64_bd {a : Int} (h : (Lit.int .i64 a).wf = true) : -9223372036854775808 ≤ a ∧ a ≤ 9223372036854775807 := by
  simp [Lit.wf, IntKind.min, IntKind.max, IntKind.signed, IntKind.bits] at h; omega
theorem u32_bd {a : Int} (h : (Lit.int .u32 a).wf = true) : 0 ≤ a ∧ a < 4294967296 := by
  simp [Lit.wf, IntKind.min, IntKind.max, IntKind.signed, IntKind.bits] at h; omega
theorem u8_bd {a : Int} (h : (Lit.int .u8 a).wf = true) : 0 ≤ a ∧ a < 256 := by
  simp [Lit.wf, IntKind.min, IntKind.max, IntKind.signed, IntKind.bits] at h; omega
/-- Bytes as a text are the bytes. -/
theorem bytes_inj {a b : List Int} (ha : Bs a) (hb : Bs b) (h : (strOfNums a).toList = (strOfNums b).toList) : a = b := by
  have h' : a.map (fun n => UInt8.ofNat n.toNat) = b.map (fun n => UInt8.ofNat n.toNat) := by
    have e : ∀ l : List Int, (strOfNums l).toList = l.map (fun n => UInt8.ofNat n.toNat) := fun l => by
      rw [ByteArray.toList_eq]; exact strOfNums_data l
    rw [← e, ← e, h]
  clear h
  induction a generalizing b with
  | nil => cases b with
    | nil => rfl
    | cons y b => simp at h'
  | cons x a ih => cases b with
    | nil => simp at h'
    | cons y b =>
      simp only [List.map_cons, List.cons.injEq] at h'
      have h1 := congrArg UInt8.toNat h'.1
      simp only [UInt8.toNat_ofNat'] at h1
      have := ha.head
      have := hb.head
      rw [ih ha.tail hb.tail h'.2, show x = y by omega]
end Go.Proofs.Ythkipipfdlepnaa.Pure
