/- Plain law: the document's answer for the text layer, by lists of bytes. Conditions: those that each theorem states. -/
import Derived.Test.YtifdlbdecjlnaaaDoorTxGood
import Derived.Test.YtifdlbdecjlnaaaDoorTxAwake
import Derived.Test.YtifdlbdecjlnaaaDoorPAllx5
namespace Go.Proofs.YtifdlbdecjlnaaaDoor.PAll
open Go.RowKit Go.Proofs.YtifdlbdecjlnaaaDoorW.PrintWords Go.Proofs.YtifdlbdecjlnaaaDoorW.PrintLast Go.Proofs.YtifdlbdecjlnaaaDoorW.PrintMore
set_option linter.unusedVariables false
set_option linter.unusedSimpArgs false
theorem w64 {a : Int} (h0 : -9223372036854775808 ≤ a) (h1 : a ≤ 9223372036854775807) : wrap64 a = a := by unfold wrap64; omega
theorem bt_str (l : List UInt8) (i : Nat) : bt (Str l) (i : Int) = (bt8 l i : Int) := by
  unfold bt bt8
  rw [Int.toNat_natCast]
  by_cases h : i < l.length
  · rw [dif_pos (by rw [Str_size]; exact h)]
    congr 2
    simp [Str, ByteArray.getElem_eq_getElem_data, List.getD_eq_getElem?_getD, h]
  · rw [dif_neg (by rw [Str_size]; exact h)]
    simp [List.getD_eq_getElem?_getD, List.getElem?_eq_none (Nat.le_of_not_lt h)]
/-- Are the next bytes ones that go on? -/
def goN (l : List UInt8) : Nat → Nat → Bool
  | _, 0 => true
  | q, m + 1 => decide (q < l.length ∧ cont (bt8 l q)) && goN l (q + 1) m
theorem follows_ev (l : List UInt8) (hl : l.length < 1000000) (p n : Nat) (hp : p < 1000000) (hn : n ≤ 3) : ∀ (m q : Nat), q + m = p + n → Ev (fun k => colloquyref14_follows.l0 k (Str l) (p : Int) (n : Int) (q : Int)) (goN l q m)
  | 0, q, h => by
    have hw : wrap64 ((p : Int) + (n : Int)) = ((p + n : Nat) : Int) := by rw [w64 (by omega) (by omega)]; omega
    exact Ev.step (f := fun _ => some true) (fun k => by rw [colloquyref14_follows.l0, hw, if_neg (by omega)]) (Ev.now _)
  | m + 1, q, h => by
    have hw : wrap64 ((p : Int) + (n : Int)) = ((p + n : Nat) : Int) := by rw [w64 (by omega) (by omega)]; omega
    have hq : wrap64 ((q : Int) + 1) = ((q + 1 : Nat) : Int) := by rw [w64 (by omega) (by omega)]; omega
    have ih := follows_ev l hl p n hp hn m (q + 1) (by omega)
    unfold goN
    by_cases h1 : q < l.length
    · by_cases h2 : bt8 l q < 128
      · rw [decide_eq_false (by unfold cont; omega), Bool.false_and]
        exact Ev.step (f := fun _ => some false) (fun k => by rw [colloquyref14_follows.l0, hw, if_pos (by omega), Str_size, if_neg (by omega), if_pos (by omega), if_pos (by omega), bt_str, if_pos (by omega)]) (Ev.now _)
      · by_cases h3 : 191 < bt8 l q
        · rw [decide_eq_false (by unfold cont; omega), Bool.false_and]
          exact Ev.step (f := fun _ => some false) (fun k => by rw [colloquyref14_follows.l0, hw, if_pos (by omega), Str_size, if_neg (by omega), if_pos (by omega), if_pos (by omega), bt_str, if_neg (by omega), if_pos (by omega)]) (Ev.now _)
        · rw [decide_eq_true (by unfold cont; omega), Bool.true_and]
          exact Ev.step (fun k => by rw [colloquyref14_follows.l0, hw, if_pos (by omega), Str_size, if_neg (by omega), if_pos (by omega), if_pos (by omega), bt_str, if_neg (by omega), if_neg (by omega), hq]) ih
    · rw [decide_eq_false (by omega), Bool.false_and]
      exact Ev.step (f := fun _ => some false) (fun k => by rw [colloquyref14_follows.l0, hw, if_pos (by omega), Str_size, if_pos (by omega)]) (Ev.now _)
theorem size_j2 (l : List UInt8) (hl : l.length < 1000000) (p : Nat) (hp : p < l.length) (c : Nat) (t : Bool) (ht : t = true → p + 1 < l.length) : Ev (fun k => colloquyref14_size.j2 k (Str l) (p : Int) (c : Int) t) ((if t = true then (if (c = 240 ∧ bt8 l (p + 1) < 144) ∨ (c = 244 ∧ 143 < bt8 l (p + 1)) then 0 else 4) else 0 : Nat) : Int) := by
  have hq : wrap64 ((p : Int) + 1) = ((p + 1 : Nat) : Int) := by rw [w64 (by omega) (by omega)]; omega
  refine Ev.step (f := fun _ => some _) (fun k => ?_) (Ev.now _)
  rw [colloquyref14_size.j2, hq, bt_str, Str_size]
  cases t
  · rfl
  · have := ht rfl
    rw [if_pos rfl, if_pos rfl, if_pos (by omega), if_pos (by omega)]
    repeat' split
    all_goals first | rfl | (exfalso; omega)
theorem size_j1 (l : List UInt8) (hl : l.length < 1000000) (p : Nat) (hp : p < l.length) (c : Nat) (t3 t : Bool) (ht : t = true → p + 1 < l.length) (ht3 : t3 = true → p + 1 < l.length) : Ev (fun k => colloquyref14_size.j1 k (Str l) (p : Int) (c : Int) t3 t)
    ((if t = true then (if (c = 224 ∧ bt8 l (p + 1) < 160) ∨ (c = 237 ∧ 159 < bt8 l (p + 1)) then 0 else 3) else if (240 ≤ c ∧ c ≤ 244) ∧ t3 = true then (if (c = 240 ∧ bt8 l (p + 1) < 144) ∨ (c = 244 ∧ 143 < bt8 l (p + 1)) then 0 else 4) else 0 : Nat) : Int) := by
  have hq : wrap64 ((p : Int) + 1) = ((p + 1 : Nat) : Int) := by rw [w64 (by omega) (by omega)]; omega
  cases t
  · by_cases h1 : 240 ≤ c
    · by_cases h2 : c ≤ 244
      · have e := size_j2 l hl p hp c t3 ht3
        have eq : ((if (false : Bool) = true then (if (c = 224 ∧ bt8 l (p + 1) < 160) ∨ (c = 237 ∧ 159 < bt8 l (p + 1)) then 0 else 3) else if (240 ≤ c ∧ c ≤ 244) ∧ t3 = true then (if (c = 240 ∧ bt8 l (p + 1) < 144) ∨ (c = 244 ∧ 143 < bt8 l (p + 1)) then 0 else 4) else 0 : Nat)) = (if t3 = true then (if (c = 240 ∧ bt8 l (p + 1) < 144) ∨ (c = 244 ∧ 143 < bt8 l (p + 1)) then 0 else 4) else 0) := by
          rw [if_neg (by decide)]
          cases t3
          · rw [if_neg (by simp), if_neg (by decide)]
          · rw [if_pos ⟨⟨h1, h2⟩, rfl⟩, if_pos rfl]
        rw [eq]
        exact Ev.step (fun k => by rw [colloquyref14_size.j1, if_neg (by decide), if_pos (by omega), if_pos (by omega)]) e
      · have e := size_j2 l hl p hp c false (fun h => by cases h)
        rw [if_neg (by decide), if_neg (by omega)]
        rw [if_neg (by decide)] at e
        exact Ev.step (fun k => by rw [colloquyref14_size.j1, if_neg (by decide), if_pos (by omega), if_neg (by omega)]) e
    · have e := size_j2 l hl p hp c false (fun h => by cases h)
      rw [if_neg (by decide), if_neg (by omega)]
      rw [if_neg (by decide)] at e
      exact Ev.step (fun k => by rw [colloquyref14_size.j1, if_neg (by decide), if_neg (by omega)]) e
  · have := ht rfl
    refine Ev.step (f := fun _ => some _) (fun k => ?_) (Ev.now _)
    rw [colloquyref14_size.j1, hq, bt_str, Str_size]
    rw [if_pos rfl, if_pos rfl, if_pos (by omega), if_pos (by omega)]
    repeat' split
    all_goals first | rfl | (exfalso; omega)
theorem size_j0 (l : List UInt8) (hl : l.length < 1000000) (p : Nat) (hp : p < l.length) (c : Nat) (t2 t3 t : Bool) (ht2 : t2 = true → p + 1 < l.length) (ht3 : t3 = true → p + 1 < l.length) : Ev (fun k => colloquyref14_size.j0 k (Str l) (p : Int) (c : Int) t2 t3 t)
    ((if t = true then 2 else if (224 ≤ c ∧ c ≤ 239) ∧ t2 = true then (if (c = 224 ∧ bt8 l (p + 1) < 160) ∨ (c = 237 ∧ 159 < bt8 l (p + 1)) then 0 else 3) else if (240 ≤ c ∧ c ≤ 244) ∧ t3 = true then (if (c = 240 ∧ bt8 l (p + 1) < 144) ∨ (c = 244 ∧ 143 < bt8 l (p + 1)) then 0 else 4) else 0 : Nat) : Int) := by
  cases t
  · rw [if_neg (by decide)]
    have e := fun b hb => size_j1 l hl p hp c t3 b hb ht3
    by_cases h1 : 224 ≤ c ∧ c ≤ 239
    · have e2 := e t2 ht2
      cases t2
      · rw [if_neg (by simp)]
        rw [if_neg (by decide)] at e2
        exact Ev.step (fun k => by rw [colloquyref14_size.j0, if_neg (by decide), if_pos (by omega), if_pos (by omega)]) e2
      · rw [if_pos ⟨h1, rfl⟩]
        rw [if_pos rfl] at e2
        exact Ev.step (fun k => by rw [colloquyref14_size.j0, if_neg (by decide), if_pos (by omega), if_pos (by omega)]) e2
    · have e2 := e false (fun h => by cases h)
      rw [if_neg (by simp [h1])]
      rw [if_neg (by decide)] at e2
      by_cases h2 : 224 ≤ c
      · exact Ev.step (fun k => by rw [colloquyref14_size.j0, if_neg (by decide), if_pos (by omega), if_neg (by omega)]) e2
      · exact Ev.step (fun k => by rw [colloquyref14_size.j0, if_neg (by decide), if_neg (by omega)]) e2
  · exact Ev.step (f := fun _ => some 2) (fun k => by rw [colloquyref14_size.j0, if_pos rfl]) (Ev.now _)
theorem go1 (l : List UInt8) (p : Nat) : goN l (p + 1) 1 = decide (p + 1 < l.length ∧ cont (bt8 l (p + 1))) := by simp [goN]
theorem go2 (l : List UInt8) (p : Nat) : goN l (p + 1) 2 = decide ((p + 1 < l.length ∧ cont (bt8 l (p + 1))) ∧ (p + 2 < l.length ∧ cont (bt8 l (p + 2)))) := by simp [goN, Bool.decide_and]
theorem go3 (l : List UInt8) (p : Nat) : goN l (p + 1) 3 = decide ((p + 1 < l.length ∧ cont (bt8 l (p + 1))) ∧ (p + 2 < l.length ∧ cont (bt8 l (p + 2))) ∧ (p + 3 < l.length ∧ cont (bt8 l (p + 3)))) := by simp [goN, Bool.decide_and]
theorem ev_eq {g : Nat → Option Int} {v w : Nat} (h : v = w) (e : Ev g (v : Int)) : Ev g (w : Int) := h ▸ e
theorem size_ev (l : List UInt8) (hl : l.length < 1000000) (p : Nat) (hp : p < l.length) : Ev (fun k => colloquyref14_size.f k (Str l) (p : Int)) (sz8 l p : Int) := by
  have hq : wrap64 ((p : Int) + 1) = ((p + 1 : Nat) : Int) := by rw [w64 (by omega) (by omega)]; omega
  by_cases h0 : bt8 l p < 128
  · have e : sz8 l p = 1 := by unfold sz8 szN; rw [if_pos h0]
    rw [e]
    exact Ev.congr (f := fun _ => some 1) (fun k => by rw [colloquyref14_size.f, if_pos (by omega), Str_size, if_pos (by omega), bt_str, if_pos (by omega)]) (Ev.now _)
  · have f1 := follows_ev l hl (p + 1) 1 (by omega) (by omega) 1 (p + 1) rfl
    have f2 : Ev (fun k => colloquyref14_follows.f k (Str l) ((p + 1 : Nat) : Int) 2) (goN l (p + 1) 2) := follows_ev l hl (p + 1) 2 (by omega) (by omega) 2 (p + 1) rfl
    have f3 : Ev (fun k => colloquyref14_follows.f k (Str l) ((p + 1 : Nat) : Int) 3) (goN l (p + 1) 3) := follows_ev l hl (p + 1) 3 (by omega) (by omega) 3 (p + 1) rfl
    refine Ev.congr (fun k => by rw [colloquyref14_size.f, if_pos (by omega), Str_size, if_pos (by omega), bt_str, if_neg (by omega), hq]) ?_
    refine Ev.bind f1 (Ev.bind f2 (Ev.bind f3 ?_))
    rw [go1, go2, go3]
    have d2 : decide ((p + 1 < l.length ∧ cont (bt8 l (p + 1))) ∧ (p + 2 < l.length ∧ cont (bt8 l (p + 2)))) = true → p + 1 < l.length := fun h => (of_decide_eq_true h).1.1
    have d3 : decide ((p + 1 < l.length ∧ cont (bt8 l (p + 1))) ∧ (p + 2 < l.length ∧ cont (bt8 l (p + 2))) ∧ (p + 3 < l.length ∧ cont (bt8 l (p + 3)))) = true → p + 1 < l.length := fun h => (of_decide_eq_true h).1.1
    have e := fun b => size_j0 l hl p hp (bt8 l p) _ _ b d2 d3
    have main : ∀ b : Bool, (b = true ↔ ((194 ≤ bt8 l p ∧ bt8 l p ≤ 223) ∧ p + 1 < l.length ∧ cont (bt8 l (p + 1)))) → Ev (fun k => colloquyref14_size.j0 k (Str l) (p : Int) (bt8 l p : Int) (decide ((p + 1 < l.length ∧ cont (bt8 l (p + 1))) ∧ (p + 2 < l.length ∧ cont (bt8 l (p + 2))))) (decide ((p + 1 < l.length ∧ cont (bt8 l (p + 1))) ∧ (p + 2 < l.length ∧ cont (bt8 l (p + 2))) ∧ (p + 3 < l.length ∧ cont (bt8 l (p + 3))))) b) (sz8 l p : Int) := by
      intro b hb
      refine ev_eq ?_ (e b)
      unfold sz8 szN
      rw [if_neg h0]
      simp only [decide_eq_true_eq, hb]
      have n1 : (1 < l.length - p) = (p + 1 < l.length) := propext ⟨fun h => by omega, fun h => by omega⟩
      have n2 : (2 < l.length - p) = (p + 2 < l.length) := propext ⟨fun h => by omega, fun h => by omega⟩
      have n3 : (3 < l.length - p) = (p + 3 < l.length) := propext ⟨fun h => by omega, fun h => by omega⟩
      simp only [n1, n2, n3]
    by_cases h1 : 194 ≤ bt8 l p
    · by_cases h2 : bt8 l p ≤ 223
      · exact Ev.congr (fun k => by rw [if_pos (by omega), if_pos (by omega)]) (main _ (by rw [decide_eq_true_eq]; constructor; exact fun h => ⟨⟨h1, h2⟩, h⟩; exact fun h => h.2))
      · exact Ev.congr (fun k => by rw [if_pos (by omega), if_neg (by omega)]) (main _ (by constructor; (intro h; cases h); (intro h; exact absurd h.1.2 h2)))
    · exact Ev.congr (fun k => by rw [if_neg (by omega)]) (main _ (by constructor; (intro h; cases h); (intro h; exact absurd h.1.1 h1)))
theorem refmay_l0 (l : List UInt8) (hl : l.length < 1000000) : ∀ (n p : Nat), l.length ≤ p + n → p ≤ l.length → ∃ b : Bool, (b = true ↔ GoodAt l p) ∧ Ev (fun k => colloquyref14_May.l0 k (Str l) (p : Int)) b
  | n, p, h1, h2 => by
    by_cases hp : p = l.length
    · exact ⟨true, ⟨fun _ => hp ▸ .done, fun _ => rfl⟩, Ev.step (f := fun _ => some true) (fun k => by rw [colloquyref14_May.l0, Str_size, if_neg (by omega)]) (Ev.now _)⟩
    · have hlt : p < l.length := by omega
      obtain ⟨m, rfl⟩ : ∃ m, n = m + 1 := ⟨n - 1, by omega⟩
      have hs := size_ev l hl p hlt
      have start : ∀ b, Ev (fun k => if (sz8 l p : Int) = 0 then some false else (if 0 ≤ (p : Int) then (if (bt (Str l) (p : Int)) < 32 then (some false) else (if (bt (Str l) (p : Int)) = 127 then (some false) else (colloquyref14_May.l0 k (Str l) (wrap64 ((p : Int) + (sz8 l p : Int)))))) else (none))) b → Ev (fun k => colloquyref14_May.l0 k (Str l) (p : Int)) b := fun b h => by
        refine Ev.step (fun k => by rw [colloquyref14_May.l0, Str_size, if_pos (by omega)]) ?_
        exact Ev.bind hs h
      by_cases hz : sz8 l p = 0
      · refine ⟨false, ⟨fun h => (by cases h), fun hg => ?_⟩, start _ (Ev.congr (f := fun _ => some false) (fun k => by rw [if_pos (by omega)]) (Ev.now _))⟩
        cases hg with
        | done => omega
        | step _ _ h _ _ => exact absurd hz h
      · by_cases hb : bt8 l p < 32 ∨ bt8 l p = 127
        · refine ⟨false, ⟨fun h => (by cases h), fun hg => ?_⟩, start _ (Ev.congr (f := fun _ => some false) (fun k => by
            rw [if_neg (by omega), if_pos (by omega), bt_str]
            by_cases h32 : bt8 l p < 32
            · rw [if_pos (by omega)]
            · rw [if_neg (by omega), if_pos (by omega)]) (Ev.now _))⟩
          cases hg with
          | done => omega
          | step _ _ _ h _ => exact absurd hb h
        · have hle : sz8 l p ≤ l.length - p := szN_le _ _ _ _ _ (by omega)
          obtain ⟨b, hb1, hb2⟩ := refmay_l0 l hl m (p + sz8 l p) (by omega) (by omega)
          have hw : wrap64 ((p : Int) + (sz8 l p : Int)) = ((p + sz8 l p : Nat) : Int) := by rw [w64 (by omega) (by omega)]; omega
          refine ⟨b, hb1.trans ⟨fun h => .step p hlt hz hb h, fun hg => ?_⟩, start _ (Ev.congr (fun k => by rw [if_neg (by omega), if_pos (by omega), bt_str, if_neg (by omega), if_neg (by omega), hw]) hb2)⟩
          cases hg with
          | done => omega
          | step _ _ _ _ h => exact h
theorem refmay_ev (l : List UInt8) (hl : l.length < 1000000) : Ev (fun k => colloquyref14_May.f k (Str l)) (mayS l) := by
  by_cases h1 : l.length < 1
  · have e : mayS l = false := by
      cases h : mayS l
      · rfl
      · have := (may_iff l).1 h; omega
    rw [e]
    refine Ev.congr (fun k => by rw [colloquyref14_May.f, Str_size, if_pos (by omega)]) (Ev.step (f := fun _ => some false) (fun k => by rw [colloquyref14_May.j0, if_pos rfl]) (Ev.now _))
  · by_cases h2 : 64 < l.length
    · have e : mayS l = false := by
        cases h : mayS l
        · rfl
        · have := (may_iff l).1 h; omega
      rw [e]
      refine Ev.congr (fun k => by rw [colloquyref14_May.f, Str_size, if_neg (by omega), decide_eq_true (show (l.length : Int) > 64 by omega)]) (Ev.step (f := fun _ => some false) (fun k => by rw [colloquyref14_May.j0, if_pos rfl]) (Ev.now _))
    · obtain ⟨b, hb1, hb2⟩ := refmay_l0 l hl l.length 0 (by omega) (by omega)
      have e : mayS l = b := by
        cases hb : b
        · cases h : mayS l
          · rfl
          · have := hb1.2 ((may_iff l).1 h).2.2
            rw [hb] at this; cases this
        · exact (may_iff l).2 ⟨by omega, by omega, hb1.1 hb⟩
      rw [e]
      refine Ev.congr (fun k => by rw [colloquyref14_May.f, Str_size, if_neg (by omega), decide_eq_false (show ¬ (l.length : Int) > 64 by omega)]) (Ev.step (fun k => by rw [colloquyref14_May.j0, if_neg (by decide)]; rfl) hb2)
theorem bt8_cons (c : UInt8) (s : List UInt8) (i : Nat) : bt8 (c :: s) (i + 1) = bt8 s i := by simp [bt8]
theorem bt8_mem {s : List UInt8} {i : Nat} (h : i < s.length) : ∃ b ∈ s, bt8 s i = b.toNat := ⟨s[i], List.getElem_mem h, by simp [bt8, List.getD_eq_getElem?_getD, h]⟩
def wordRes (v : Int) (r : List UInt8) : Int × ByteArray × Int := if 0 < v then (v, Str r, 0) else (0, ⟨#[]⟩, 2)
theorem kindAt_ge : ∀ (zs : List (List UInt8)) (x : List UInt8) (i : Int), kindAt zs x i = -1 ∨ i ≤ kindAt zs x i
  | [], x, i => .inl rfl
  | z :: zs, x, i => by
    unfold kindAt
    by_cases h : z = x
    · rw [if_pos h]; exact .inr (Int.le_refl _)
    · rw [if_neg h]
      rcases kindAt_ge zs x (i + 1) with k | k
      · exact .inl k
      · exact .inr (by omega)
theorem refword_l1 (t r : List UInt8) (hl : (47 :: (t ++ r)).length < 1000000) : ∀ (zs : List (List UInt8)) (j : Nat), 1 ≤ j → zs = kindWords.drop j → Ev (fun k => colloquyref14_word.l1 k (Str (47 :: (t ++ r))) ((1 + t.length : Nat) : Int) (kindWords.map Str) (j : Int)) (wordRes (kindAt zs t j) r)
  | [], j, hj, hz => by
    have hlen : (kindWords.map Str).length = 8 := rfl
    have hsz : (Str (47 :: (t ++ r))).size = 1 + (t.length + r.length) := by rw [Str_size, List.length_cons, List.length_append]; omega
    have hll : 1 + (t.length + r.length) < 1000000 := by rw [List.length_cons, List.length_append] at hl; omega
    have h8 : 8 ≤ j := by
      have := congrArg List.length hz
      simp [kindWords] at this
      omega
    exact Ev.step (f := fun _ => some _) (fun k => by rw [colloquyref14_word.l1, hlen, if_neg (by omega)]; rfl) (Ev.now _)
  | z :: zs, j, hj, hz => by
    have hlen : (kindWords.map Str).length = 8 := rfl
    have hsz : (Str (47 :: (t ++ r))).size = 1 + (t.length + r.length) := by rw [Str_size, List.length_cons, List.length_append]; omega
    have hll : 1 + (t.length + r.length) < 1000000 := by rw [List.length_cons, List.length_append] at hl; omega
    have h8 : j < 8 := by
      have := congrArg List.length hz
      simp [kindWords] at this
      omega
    have hget : rdOf ByteArray.empty (kindWords.map Str) (j : Int) = Str z := by
      have h0 : kindWords[j]? = some z := by
        have := congrArg List.head? hz
        rw [List.head?_drop] at this
        exact this.symm
      unfold rdOf
      rw [Int.toNat_natCast, List.getD_eq_getElem?_getD, List.getElem?_map, h0]
      rfl
    have hx : (Str (47 :: (t ++ r))).extract 1 (((1 + t.length : Nat) : Int)).toNat = Str t := by
      rw [Int.toNat_natCast, Str_extract]
      congr 1
      rw [Nat.add_comm, List.take_succ_cons, List.drop_succ_cons, List.drop_zero, List.take_left]
    have hy : (Str (47 :: (t ++ r))).extract (((1 + t.length : Nat) : Int)).toNat (Str (47 :: (t ++ r))).size = Str r := by
      rw [Int.toNat_natCast, Str_extract, Str_size, List.take_length, Nat.add_comm, List.drop_succ_cons, List.drop_left]
    have hw : wrap64 ((j : Int) + 1) = ((j + 1 : Nat) : Int) := by rw [w64 (by omega) (by omega)]; omega
    by_cases hzt : z = t
    · have e : kindAt (z :: zs) t j = j := by unfold kindAt; rw [if_pos hzt]
      rw [e]
      unfold wordRes
      rw [if_pos (by omega)]
      exact Ev.step (f := fun _ => some _) (fun k => by rw [colloquyref14_word.l1, hlen, if_pos (by omega), if_pos (by omega), if_pos (by omega), if_pos (by rw [hsz]; omega), hget, hx, if_pos (by rw [hzt]), if_pos (by omega), hy]) (Ev.now _)
    · have e : kindAt (z :: zs) t j = kindAt zs t ((j + 1 : Nat) : Int) := by
        conv => lhs; unfold kindAt
        rw [if_neg hzt]; rfl
      rw [e]
      have ih := refword_l1 t r hl zs (j + 1) (by omega) (by
        have := congrArg List.tail hz
        rw [List.tail_drop] at this
        exact this)
      exact Ev.step (fun k => by rw [colloquyref14_word.l1, hlen, if_pos (by omega), if_pos (by omega), if_pos (by omega), if_pos (by rw [hsz]; omega), hget, hx, if_neg (by
        intro h
        rw [Go.ByteArray.toList_eq, Go.ByteArray.toList_eq, Str_data, Str_data] at h
        exact hzt h), hw]) ih
theorem refword_l0 (c : UInt8) (t r : List UInt8) (ht : ∀ b ∈ t, b ≠ 32) (hr : r = [] ∨ ∃ q, r = 32 :: q) (hl : (c :: (t ++ r)).length < 1000000) (v : Int × ByteArray × Int) (h : Ev (fun k => colloquyref14_word.j1 k (Str (c :: (t ++ r))) ((1 + t.length : Nat) : Int)) v) : ∀ (n i : Nat), i + n = t.length → Ev (fun k => colloquyref14_word.l0 k (Str (c :: (t ++ r))) ((1 + i : Nat) : Int)) v
  | 0, i, hi => by
    have hsz : (Str (c :: (t ++ r))).size = 1 + (t.length + r.length) := by rw [Str_size, List.length_cons, List.length_append]; omega
    obtain rfl : i = t.length := by omega
    rcases hr with rfl | ⟨q, rfl⟩
    · exact Ev.step (fun k => by rw [colloquyref14_word.l0, hsz, if_neg (by rw [List.length_nil]; omega)]) h
    · have hb : bt8 (c :: (t ++ 32 :: q)) (1 + t.length) = 32 := by
        rw [Nat.add_comm, bt8_cons]
        have := bt8_app_right t (32 :: q) 0
        rw [Nat.add_zero] at this
        rw [this]; rfl
      exact Ev.step (fun k => by rw [colloquyref14_word.l0, hsz, if_pos (by rw [List.length_cons]; omega), if_pos (by omega), bt_str, hb, if_pos (by rfl)]) h
  | n + 1, i, hi => by
    have hsz : (Str (c :: (t ++ r))).size = 1 + (t.length + r.length) := by rw [Str_size, List.length_cons, List.length_append]; omega
    have hll : 1 + (t.length + r.length) < 1000000 := by rw [List.length_cons, List.length_append] at hl; omega
    have ih := refword_l0 c t r ht hr hl v h n (i + 1) (by omega)
    have hb : bt8 (c :: (t ++ r)) (1 + i) ≠ 32 := by
      rw [Nat.add_comm, bt8_cons, bt8_app_left t r i (by omega)]
      obtain ⟨b, hb, e⟩ := bt8_mem (s := t) (i := i) (by omega)
      rw [e]
      intro h32
      exact ht b hb (UInt8.toNat_inj.mp h32)
    have hw : wrap64 (((1 + i : Nat) : Int) + 1) = ((1 + (i + 1) : Nat) : Int) := by rw [w64 (by omega) (by omega)]; omega
    exact Ev.step (fun k => by rw [colloquyref14_word.l0, hsz, if_pos (by omega), if_pos (by omega), bt_str, if_neg (by omega), hw]) ih
def wordR (l : List UInt8) : Int × ByteArray × Int :=
  match wordS l with
  | .ok (k, r) => (k, Str r, 0)
  | .error x => (0, ⟨#[]⟩, x)
theorem refword_ev (l : List UInt8) (hl : l.length < 1000000) : Ev (fun k => colloquyref14_word.f k (Str l)) (wordR l) := by
  cases l with
  | nil =>
    show Ev (fun k => colloquyref14_word.l0 k (Str []) 1) _
    refine Ev.step (fun k => by rw [colloquyref14_word.l0, Str_size, if_neg (by decide)]) ?_
    refine Ev.step (fun k => by rw [colloquyref14_word.j1, Str_size, if_pos (by rfl)]) ?_
    exact Ev.step (f := fun _ => some _) (fun k => by rw [colloquyref14_word.j2, if_pos rfl]; rfl) (Ev.now _)
  | cons c s =>
    have hs : s.takeWhile nsp ++ s.dropWhile nsp = s := List.takeWhile_append_dropWhile
    have ht : ∀ b ∈ s.takeWhile nsp, b ≠ 32 := fun b hb => by have := tw_all nsp s b hb; simpa [nsp] using this
    have hr : s.dropWhile nsp = [] ∨ ∃ q, s.dropWhile nsp = 32 :: q := by
      cases hd : s.dropWhile nsp with
      | nil => exact .inl rfl
      | cons c q => exact .inr ⟨q, by have := dw_head nsp s c q hd; have : c = 32 := by simpa [nsp] using this
                                      rw [this]⟩
    have hsz : (Str (c :: s)).size = s.length + 1 := by rw [Str_size]; rfl
    have hb0 : bt (Str (c :: s)) 0 = (c.toNat : Int) := bt_str (c :: s) 0
    have main : Ev (fun k => colloquyref14_word.j1 k (Str (c :: s)) ((1 + (s.takeWhile nsp).length : Nat) : Int)) (wordR (c :: s)) := by
      by_cases h47 : c = 47
      · subst h47
        have l1 := refword_l1 (s.takeWhile nsp) (s.dropWhile nsp) (by rw [hs]; exact hl) (kindWords.drop 1) 1 (by omega) rfl
        rw [hs] at l1
        have e : wordR (47 :: s) = wordRes (kindAt (kindWords.drop 1) (s.takeWhile nsp) (1 : Nat)) (s.dropWhile nsp) := by
          unfold wordR wordRes
          simp only [wordS]
          have hk : kindOf (s.takeWhile nsp) = if [110, 111, 112] = s.takeWhile nsp then 0 else kindAt (kindWords.drop 1) (s.takeWhile nsp) 1 := rfl
          rw [hk]
          by_cases hn : [110, 111, 112] = s.takeWhile nsp
          · rw [if_pos hn, if_neg (by decide), ← hn]
            rfl
          · rw [if_neg hn]
            by_cases h0 : 0 < kindAt (kindWords.drop 1) (s.takeWhile nsp) 1
            · rw [if_pos h0, if_pos (by exact h0)]; rfl
            · rw [if_neg h0, if_neg (by exact h0)]
        rw [e]
        refine Ev.step (fun k => by rw [colloquyref14_word.j1, hsz, if_neg (by omega), if_pos (by omega), hb0]) ?_
        refine Ev.step (fun k => by rw [colloquyref14_word.j2, if_neg (by decide), show colloquyref14_Words.f = some (kindWords.map Str) from rfl, Option.bind_some]) ?_
        exact l1
      · have e : wordR (c :: s) = (0, ⟨#[]⟩, 2) := by
          unfold wordR wordS
          split
          · rename_i h; split at h
            · rename_i heq; cases heq; exact absurd rfl h47
            · cases h
          · rename_i h; split at h
            · rename_i heq; cases heq; exact absurd rfl h47
            · cases h; rfl
        rw [e]
        refine Ev.step (fun k => by rw [colloquyref14_word.j1, hsz, if_neg (by omega), if_pos (by omega), hb0]) ?_
        have hne : ((c.toNat : Int) != 47) = true := by
          rw [bne_iff_ne]
          intro h
          exact h47 (UInt8.toNat_inj.mp (by have : (47 : UInt8).toNat = 47 := rfl; omega))
        rw [hne]
        exact Ev.step (f := fun _ => some _) (fun k => by rw [colloquyref14_word.j2, if_pos rfl]) (Ev.now _)
    have l0 := refword_l0 c (s.takeWhile nsp) (s.dropWhile nsp) ht hr (by rw [hs]; exact hl) (wordR (c :: s)) (by rw [hs]; exact main) (s.takeWhile nsp).length 0 (by omega)
    rw [hs] at l0
    exact l0
theorem decVal_snoc (x : List UInt8) (b : UInt8) : decVal (x ++ [b]) = 10 * decVal x + (b.toNat - 48) := by simp [decVal, List.foldl_append]
theorem decFold_lt : ∀ (d : List UInt8) (a : Nat), (∀ b ∈ d, isDig b = true) → d.foldl (fun a b => 10 * a + (b.toNat - 48)) a < (a + 1) * 10 ^ d.length
  | [], a, _ => by simp
  | b :: d, a, h => by
    have hb : 48 ≤ b.toNat ∧ b.toNat ≤ 57 := by simpa [isDig] using h b (List.mem_cons_self ..)
    have ih := decFold_lt d (10 * a + (b.toNat - 48)) fun c hc => h c (List.mem_cons_of_mem _ hc)
    rw [List.foldl_cons, List.length_cons, Nat.pow_succ]
    refine Nat.lt_of_lt_of_le ih ?_
    rw [show (a + 1) * (10 ^ d.length * 10) = (10 * (a + 1)) * 10 ^ d.length by rw [Nat.mul_comm (10 ^ d.length) 10, ← Nat.mul_assoc, Nat.mul_comm (a + 1) 10]]
    exact Nat.mul_le_mul_right _ (by omega)
theorem decVal_lt (d : List UInt8) (h : ∀ b ∈ d, isDig b = true) : decVal d < 10 ^ d.length := by
  have := decFold_lt d 0 h
  simpa [decVal] using this
theorem isDig_nat (b : UInt8) : isDig b = true ↔ 48 ≤ b.toNat ∧ b.toNat ≤ 57 := by simp [isDig]
/-- One step of the loop over digits. -/
theorem refnum_step (l : List UInt8) (hl : l.length < 1000000) (most x : Int) (p : Nat) (hp : p < l.length) (hd : 48 ≤ bt8 l p ∧ bt8 l p ≤ 57) (v : Int × ByteArray × Int)
    (h : Ev (fun k => if (p : Int) ≤ 10 then (colloquyref14_number.l0 k (Str l) most (wrap64 ((wrap64 (10 * x)) + (((bt8 l p : Int) - 48) % 256))) ((p + 1 : Nat) : Int)) else (colloquyref14_number.l0 k (Str l) most x ((p + 1 : Nat) : Int))) v) : Ev (fun k => colloquyref14_number.l0 k (Str l) most x (p : Int)) v := by
  have hw : wrap64 ((p : Int) + 1) = ((p + 1 : Nat) : Int) := by rw [w64 (by omega) (by omega)]; omega
  refine Ev.step (fun k => by rw [colloquyref14_number.l0, Str_size, if_pos (by omega), if_pos (by omega), bt_str, if_pos (by omega), decide_eq_true (by omega)]) ?_
  refine Ev.step (fun k => by rw [colloquyref14_number.j2, if_pos rfl, Str_size, bt_str, hw]) ?_
  refine Ev.congr (fun k => ?_) h
  by_cases c : (p : Int) ≤ 10
  · rw [if_pos c, if_pos c, if_pos (by omega), if_pos (by omega)]
  · rw [if_neg c, if_neg c]
theorem refnum_stop (l : List UInt8) (hl : l.length < 1000000) (most x : Int) (p : Nat) (hp : p ≤ l.length) (hd : p < l.length → ¬ (48 ≤ bt8 l p ∧ bt8 l p ≤ 57)) :
    Ev (fun k => colloquyref14_number.l0 k (Str l) most x (p : Int)) (if (p : Int) > 11 then (0, ⟨#[]⟩, 1) else if x > most then (0, ⟨#[]⟩, 1) else (x, Str (l.drop p), 0)) := by
  have e : Ev (fun k => colloquyref14_number.j2 k (Str l) most x (p : Int) false) (if (p : Int) > 11 then (0, ⟨#[]⟩, 1) else if x > most then (0, ⟨#[]⟩, 1) else (x, Str (l.drop p), 0)) := by
    refine Ev.step (f := fun _ => some _) (fun k => ?_) (Ev.now _)
    rw [colloquyref14_number.j2, if_neg (by decide), Str_size, if_pos (show 0 ≤ (p : Int) by omega), if_pos (show (p : Int) ≤ (l.length : Int) by omega), Int.toNat_natCast, Str_extract, List.take_length]
    by_cases c : (p : Int) > 11
    · rw [if_pos c, if_pos c]
    · rw [if_neg c, if_neg c]
      by_cases c2 : x > most
      · rw [if_pos c2, if_pos c2]
      · rw [if_neg c2, if_neg c2]
  by_cases h1 : p < l.length
  · have hd' := hd h1
    by_cases h48 : 48 ≤ bt8 l p
    · exact Ev.step (fun k => by rw [colloquyref14_number.l0, Str_size, if_pos (by omega), if_pos (by omega), bt_str, if_pos (by omega), decide_eq_false (by omega)]) e
    · exact Ev.step (fun k => by rw [colloquyref14_number.l0, Str_size, if_pos (by omega), if_pos (by omega), bt_str, if_neg (by omega)]) e
  · exact Ev.step (fun k => by rw [colloquyref14_number.l0, Str_size, if_neg (by omega)]) e
def numR (most : Int) (l : List UInt8) : Int × ByteArray × Int :=
  match numS most l with
  | .ok (k, r) => (k, Str r, 0)
  | .error x => (0, ⟨#[]⟩, x)
theorem dig_at (d r : List UInt8) (hd : ∀ b ∈ d, isDig b = true) (i : Nat) (h : i < d.length) : 48 ≤ bt8 (32 :: (d ++ r)) (i + 1) ∧ bt8 (32 :: (d ++ r)) (i + 1) ≤ 57 := by
  rw [bt8_cons, bt8_app_left d r i h]
  obtain ⟨b, hb, e⟩ := bt8_mem h
  rw [e]
  exact (isDig_nat b).1 (hd b hb)
theorem dig_end (d r : List UInt8) (hr : ∀ c q, r = c :: q → isDig c = false) (h : d.length + 1 < (32 :: (d ++ r)).length) : ¬ (48 ≤ bt8 (32 :: (d ++ r)) (d.length + 1) ∧ bt8 (32 :: (d ++ r)) (d.length + 1) ≤ 57) := by
  rw [bt8_cons]
  have e := bt8_app_right d r 0
  rw [Nat.add_zero] at e
  rw [e]
  cases r with
  | nil => simp at h
  | cons c q =>
    have := hr c q rfl
    intro k
    have k' : isDig c = true := (isDig_nat c).2 k
    rw [this] at k'
    cases k'
theorem refnum_long (d r : List UInt8) (hd : ∀ b ∈ d, isDig b = true) (hr : ∀ c q, r = c :: q → isDig c = false) (hl : (32 :: (d ++ r)).length < 1000000) (most : Int) (h10 : 10 < d.length) : ∀ (n i : Nat) (x : Int), i + n = d.length → Ev (fun k => colloquyref14_number.l0 k (Str (32 :: (d ++ r))) most x ((i + 1 : Nat) : Int)) (0, ⟨#[]⟩, 1)
  | 0, i, x, hi => by
    obtain rfl : i = d.length := by omega
    have e := refnum_stop (32 :: (d ++ r)) hl most x (d.length + 1) (by simp) (dig_end d r hr)
    rw [if_pos (by omega)] at e
    exact e
  | n + 1, i, x, hi => by
    refine refnum_step _ hl most x (i + 1) (by simp; omega) (dig_at d r hd i (by omega)) _ ?_
    by_cases c : ((i + 1 : Nat) : Int) ≤ 10
    · exact Ev.congr (fun k => by rw [if_pos c]) (refnum_long d r hd hr hl most h10 n (i + 1) _ (by omega))
    · exact Ev.congr (fun k => by rw [if_neg c]) (refnum_long d r hd hr hl most h10 n (i + 1) _ (by omega))
theorem refnum_short (d r : List UInt8) (hd : ∀ b ∈ d, isDig b = true) (hr : ∀ c q, r = c :: q → isDig c = false) (hl : (32 :: (d ++ r)).length < 1000000) (most : Int) (h10 : d.length ≤ 10) : ∀ (n i : Nat), i + n = d.length → Ev (fun k => colloquyref14_number.l0 k (Str (32 :: (d ++ r))) most (decVal (d.take i) : Nat) ((i + 1 : Nat) : Int)) (if ((decVal d : Nat) : Int) > most then (0, ⟨#[]⟩, 1) else ((decVal d : Nat), Str r, 0))
  | 0, i, hi => by
    obtain rfl : i = d.length := by omega
    rw [List.take_length]
    have e := refnum_stop (32 :: (d ++ r)) hl most (decVal d : Nat) (d.length + 1) (by simp) (dig_end d r hr)
    rw [if_neg (by omega), List.drop_succ_cons, List.drop_left] at e
    exact e
  | n + 1, i, hi => by
    have hb := dig_at d r hd i (by omega)
    refine refnum_step _ hl most _ (i + 1) (by simp; omega) hb _ ?_
    have hlt : i < d.length := by omega
    have hv : bt8 (32 :: (d ++ r)) (i + 1) = (d[i]).toNat := by
      rw [bt8_cons, bt8_app_left d r i hlt]
      simp [bt8, List.getD_eq_getElem?_getD, hlt]
    have hs : decVal (d.take (i + 1)) = 10 * decVal (d.take i) + ((d[i]).toNat - 48) := by
      rw [← decVal_snoc, List.take_succ_eq_append_getElem hlt]
    have hlt2 : decVal (d.take i) < 10 ^ 9 := by
      refine Nat.lt_of_lt_of_le (decVal_lt _ fun b hb => hd b (List.mem_of_mem_take hb)) ?_
      exact Nat.pow_le_pow_right (by omega) (by rw [List.length_take]; omega)
    rw [hv] at hb ⊢
    have e : wrap64 ((wrap64 (10 * (decVal (d.take i) : Nat))) + ((((d[i]).toNat : Int) - 48) % 256)) = ((decVal (d.take (i + 1)) : Nat) : Int) := by
      rw [w64 (a := 10 * _) (by omega) (by omega), w64 (by omega) (by omega), hs]
      omega
    exact Ev.congr (fun k => by rw [if_pos (by omega), e]) (refnum_short d r hd hr hl most h10 n (i + 1) (by omega))
theorem refnum_ev (l : List UInt8) (hl : l.length < 1000000) (most : Int) : Ev (fun k => colloquyref14_number.f k (Str l) most) (numR most l) := by
  have bad : Ev (fun k => colloquyref14_number.j0 k (Str l) most true) ((0 : Int), (⟨#[]⟩ : ByteArray), (2 : Int)) := Ev.step (f := fun _ => some _) (fun k => by rw [colloquyref14_number.j0, if_pos rfl]) (Ev.now _)
  match l, hl, bad with
  | [], hl, bad =>
    exact Ev.congr (fun k => by rw [colloquyref14_number.f, Str_size, if_pos (by decide)]) bad
  | [c], hl, bad =>
    have e : numR most [c] = (0, ⟨#[]⟩, 2) := by
      unfold numR numS
      split
      · rename_i h; split at h
        · rename_i heq; cases heq; simp at h
        · cases h
      · rename_i h; split at h
        · rename_i heq; cases heq; simp at h; rw [h]
        · cases h; rfl
    rw [e]
    exact Ev.congr (fun k => by rw [colloquyref14_number.f, Str_size, if_pos (by simp)]) bad
  | c :: x :: s, hl, bad =>
    have hsz : (Str (c :: x :: s)).size = s.length + 2 := by rw [Str_size]; rfl
    have hb0 : bt (Str (c :: x :: s)) 0 = (c.toNat : Int) := bt_str _ 0
    have hb1 : bt (Str (c :: x :: s)) 1 = (x.toNat : Int) := bt_str _ 1
    by_cases hc : c = 32
    · subst hc
      have e32 : ((32 : UInt8).toNat : Int) = 32 := rfl
      by_cases hx : x.toNat < 49 ∨ 57 < x.toNat
      · have e : numR most (32 :: x :: s) = (0, ⟨#[]⟩, 2) := by
          have h : numS most (32 :: x :: s) = .error 2 := by
            simp only [numS]
            rw [if_pos]
            by_cases h48 : x = 48
            · right; subst h48; rfl
            · left
              have : isDig x = false := by
                cases hi : isDig x
                · rfl
                · have := (isDig_nat x).1 hi
                  have : x.toNat ≠ 48 := fun h => h48 (UInt8.toNat_inj.mp h)
                  omega
              rw [List.takeWhile_cons, this]; rfl
          unfold numR
          rw [h]
        rw [e]
        by_cases h49 : x.toNat < 49
        · exact Ev.congr (fun k => by rw [colloquyref14_number.f, hsz, if_neg (by omega), if_pos (by omega), hb0, e32, if_pos rfl, if_pos (by omega), hb1, if_pos (by omega)]) bad
        · exact Ev.congr (fun k => by rw [colloquyref14_number.f, hsz, if_neg (by omega), if_pos (by omega), hb0, e32, if_pos rfl, if_pos (by omega), hb1, if_neg (by omega), decide_eq_true (by omega)]) bad
      · have hdx : isDig x = true := (isDig_nat x).2 (by omega)
        have hs : (x :: s).takeWhile isDig ++ (x :: s).dropWhile isDig = x :: s := List.takeWhile_append_dropWhile
        have hd := tw_all isDig (x :: s)
        have hr := dw_head isDig (x :: s)
        have hne : (x :: s).takeWhile isDig ≠ [] := by rw [List.takeWhile_cons, hdx]; simp
        have hhd : ((x :: s).takeWhile isDig).head? ≠ some 48 := by
          rw [List.takeWhile_cons, hdx]
          intro h
          have : x = 48 := by simpa using h
          rw [this] at hx
          exact hx (.inl (by decide))
        have hll : (32 :: ((x :: s).takeWhile isDig ++ (x :: s).dropWhile isDig)).length < 1000000 := by rw [hs]; exact hl
        refine Ev.congr (fun k => by rw [colloquyref14_number.f, hsz, if_neg (by omega), if_pos (by omega), hb0, e32, if_pos rfl, if_pos (by omega), hb1, if_neg (by omega), decide_eq_false (by omega)]) ?_
        refine Ev.step (fun k => by rw [colloquyref14_number.j0, if_neg (by decide)]) ?_
        by_cases h10 : 10 < ((x :: s).takeWhile isDig).length
        · have e := refnum_long _ _ hd hr hll most h10 _ 0 0 (Nat.zero_add _)
          rw [hs] at e
          have en : numR most (32 :: x :: s) = (0, ⟨#[]⟩, 1) := by
            unfold numR
            simp only [numS]
            rw [if_neg (by intro h; rcases h with h | h; exact hne h; exact hhd h), if_pos h10]
          rw [en]
          exact e
        · have e := refnum_short _ _ hd hr hll most (by omega) _ 0 (Nat.zero_add _)
          rw [hs] at e
          have en : numR most (32 :: x :: s) = (if ((decVal ((x :: s).takeWhile isDig) : Nat) : Int) > most then (0, ⟨#[]⟩, 1) else (((decVal ((x :: s).takeWhile isDig) : Nat) : Int), Str ((x :: s).dropWhile isDig), 0)) := by
            unfold numR
            simp only [numS]
            rw [if_neg (by intro h; rcases h with h | h; exact hne h; exact hhd h), if_neg h10]
            by_cases hb : most < ((decVal ((x :: s).takeWhile isDig) : Nat) : Int)
            · rw [if_pos hb, if_pos (by exact hb)]
            · rw [if_neg hb, if_neg (by exact hb)]
          rw [en]
          exact e
    · have e : numR most (c :: x :: s) = (0, ⟨#[]⟩, 2) := by
        have h : numS most (c :: x :: s) = .error 2 := by
          unfold numS
          split
          · rename_i heq; cases heq; exact absurd rfl hc
          · rfl
        unfold numR
        rw [h]
      rw [e]
      exact Ev.congr (fun k => by rw [colloquyref14_number.f, hsz, if_neg (by omega), if_pos (by omega), hb0, if_neg (by
        intro h
        exact hc (UInt8.toNat_inj.mp (by have : (32 : UInt8).toNat = 32 := rfl; omega)))]) bad
theorem wordS_err {l : List UInt8} {x : Int} (h : wordS l = .error x) : x = 2 := by
  unfold wordS at h
  split at h
  · split at h
    · cases h
    · cases h; rfl
  · cases h; rfl
theorem numS_err {most : Int} {l : List UInt8} {x : Int} (h : numS most l = .error x) : x = 1 ∨ x = 2 := by
  unfold numS at h
  split at h
  · split at h
    · cases h; exact .inr rfl
    split at h
    · cases h; exact .inl rfl
    split at h
    · cases h; exact .inl rfl
    cases h
  · cases h; exact .inr rfl
theorem kindAt_lt : ∀ (zs : List (List UInt8)) (x : List UInt8) (i : Int), 0 ≤ i → kindAt zs x i < i + zs.length
  | [], x, i, h => by simp [kindAt]; omega
  | z :: zs, x, i, h => by
    unfold kindAt
    have := kindAt_lt zs x (i + 1) (by omega)
    rw [List.length_cons]
    split <;> omega
theorem wordS_kind {l r : List UInt8} {k : Int} (h : wordS l = .ok (k, r)) : 1 ≤ k ∧ k ≤ 7 := by
  unfold wordS at h
  split at h
  · rename_i s
    split at h
    · rename_i h0
      cases h
      have := kindAt_lt kindWords (s.takeWhile nsp) 0 (by omega)
      have hl : kindWords.length = 8 := rfl
      unfold kindOf at h0 ⊢
      omega
    · cases h
  · cases h
def tailS (k n m : Int) (r : List UInt8) : Except Int (Int × Int × Int × List UInt8) :=
  match (if k = 4 ∨ k = 5 then textS mayS r else .ok ([], r)) with
  | .error x => .error x
  | .ok (t, r) => if r = [] then .ok (k, n, m, t) else .error 2
theorem refparse_j0 (k n m : Int) (hk : 1 ≤ k ∧ k ≤ 7) (r : List UInt8) (hl : r.length < 1000000) :
    Ev (fun q => colloquyref14_Parse.j0 q k (Str r) 0 0 0 0 0 (⟨#[]⟩ : ByteArray) 0 0 k n m (⟨#[]⟩ : ByteArray))
      (match tailS k n m r with
      | .ok c => ((0 : Int), (0 : Int), c.1, c.2.1, c.2.2.1, Str c.2.2.2, (0 : Int))
      | .error x => (0, 0, 0, 0, 0, (⟨#[]⟩ : ByteArray), x)) := by
  unfold tailS
  have hwd : colloquyref14_worded.f k = some (decide (k = 4 ∨ k = 5)) := by
    unfold colloquyref14_worded.f
    by_cases h4 : k = 4
    · rw [if_pos h4, decide_eq_true (.inl h4)]
    · rw [if_neg h4]
      by_cases h5 : k = 5
      · rw [decide_eq_true (.inr h5), h5]; rfl
      · rw [decide_eq_false (by omega), beq_eq_false_iff_ne.mpr h5]
  by_cases hw : k = 4 ∨ k = 5
  · rw [if_pos hw]
    have bad : Ev (fun q => colloquyref14_Parse.j1 q (Str r) true 0 0 0 0 0 (⟨#[]⟩ : ByteArray) 0 0 k n m (⟨#[]⟩ : ByteArray)) ((0 : Int), (0 : Int), (0 : Int), (0 : Int), (0 : Int), (⟨#[]⟩ : ByteArray), (2 : Int)) := Ev.step (f := fun _ => some _) (fun q => by rw [colloquyref14_Parse.j1, if_pos rfl]) (Ev.now _)
    cases r with
    | nil =>
      exact Ev.step (fun q => by rw [colloquyref14_Parse.j0, hwd, Option.bind_some, if_pos (decide_eq_true hw), if_pos (by rfl)]) bad
    | cons c s =>
      have hsz : (Str (c :: s)).size = s.length + 1 := by rw [Str_size]; rfl
      have hb0 : bt (Str (c :: s)) 0 = (c.toNat : Int) := bt_str _ 0
      refine Ev.step (fun q => by rw [colloquyref14_Parse.j0, hwd, Option.bind_some, if_pos (decide_eq_true hw), hsz, if_neg (by omega), if_pos (by omega), hb0]) ?_
      by_cases hc : c = 32
      · subst hc
        have hne : (((32 : UInt8).toNat : Int) != 32) = false := by decide
        have hw1 : wrap64 (((s.length + 1 : Nat) : Int) - 1) = (s.length : Int) := by rw [w64 (by rw [List.length_cons] at hl; omega) (by rw [List.length_cons] at hl; omega)]; omega
        have hx : (Str (32 :: s)).extract 1 (Str (32 :: s)).size = Str s := by rw [Str_extract, Str_size, List.take_length]; rfl
        rw [hne]
        simp only [textS]
        by_cases h64 : 64 < s.length
        · rw [if_pos h64]
          exact Ev.step (f := fun _ => some _) (fun q => by rw [colloquyref14_Parse.j1, if_neg (by decide), hsz, hw1, if_pos (by omega)]) (Ev.now _)
        · rw [if_neg h64]
          have hm := refmay_ev s (by rw [List.length_cons] at hl; omega)
          refine Ev.step (fun q => by rw [colloquyref14_Parse.j1, if_neg (by decide), hx, hsz, hw1, if_neg (by omega), if_pos (by omega)]) ?_
          refine Ev.bind hm ?_
          by_cases hM : mayS s = true
          · rw [if_pos hM]
            exact Ev.congr (f := fun _ => some _) (fun q => by rw [if_pos hM]; rfl) (Ev.now _)
          · rw [if_neg hM]
            exact Ev.congr (f := fun _ => some _) (fun q => by rw [if_neg hM]) (Ev.now _)
      · have e : textS mayS (c :: s) = .error 2 := by
          unfold textS
          split
          · rename_i heq; cases heq; exact absurd rfl hc
          · rfl
        rw [e]
        have hne : ((c.toNat : Int) != 32) = true := by
          rw [bne_iff_ne]
          intro h
          exact hc (UInt8.toNat_inj.mp (by have : (32 : UInt8).toNat = 32 := rfl; omega))
        rw [hne]
        exact bad
  · rw [if_neg hw]
    refine Ev.step (f := fun _ => some _) (fun q => ?_) (Ev.now _)
    rw [colloquyref14_Parse.j0, hwd, Option.bind_some, if_neg (by rw [decide_eq_false hw]; decide), Str_size]
    cases r with
    | nil => rfl
    | cons c s => rw [if_pos (by rw [List.length_cons]; omega)]; rfl
theorem refparse_ev (l : List UInt8) (hl : l.length < 1000000) (k n m : Int) (t : List UInt8) (x : Int) (hp : parseR l = ((k, n, m, t), x)) : Ev (fun q => colloquyref14_Parse.f q (Str l)) (0, 0, k, n, m, Str t, x) := by
  have hW := refword_ev l hl
  unfold parseR parseS at hp
  unfold wordR at hW
  cases hw : wordS l with
  | error e =>
    rw [hw] at hW hp
    simp only [] at hp
    cases hp
    obtain rfl := wordS_err hw
    refine Ev.bind hW ?_
    exact Ev.congr (f := fun _ => some _) (fun q => by rw [if_neg (by decide)]; rfl) (Ev.now _)
  | ok kr =>
    obtain ⟨k1, r1⟩ := kr
    rw [hw] at hW hp
    simp only [] at hp
    have hk := wordS_kind hw
    have hl1 := Nat.lt_of_le_of_lt (wordS_len hw) hl
    refine Ev.bind hW (Ev.congr (fun q => by rw [if_pos rfl]) ?_)
    have hN := refnum_ev r1 hl1 1048576
    unfold numR at hN
    cases hn : numS 1048576 r1 with
    | error e =>
      rw [hn] at hN hp
      simp only [] at hp
      cases hp
      have he := numS_err hn
      refine Ev.bind hN ?_
      exact Ev.congr (f := fun _ => some _) (fun q => by rw [if_neg (by show ¬ x = 0; omega)]; rfl) (Ev.now _)
    | ok nr =>
      obtain ⟨n1, r2⟩ := nr
      rw [hn] at hN hp
      simp only [] at hp
      have hl2 := Nat.lt_of_le_of_lt (numS_len hn) hl1
      have hnb : colloquyref14_numbered.f k1 = some (decide (5 ≤ k1)) := by
        unfold colloquyref14_numbered.f
        by_cases h5 : k1 = 5
        · rw [if_pos h5, decide_eq_true (by omega)]
        · rw [if_neg h5]
          by_cases h6 : k1 = 6
          · rw [if_pos h6, decide_eq_true (by omega)]
          · rw [if_neg h6]
            by_cases h7 : k1 = 7
            · rw [decide_eq_true (by omega), h7]; rfl
            · rw [decide_eq_false (by omega), beq_eq_false_iff_ne.mpr h7]
      refine Ev.bind hN (Ev.congr (fun q => by rw [if_pos rfl, hnb, Option.bind_some]) ?_)
      by_cases h5 : 5 ≤ k1
      · rw [if_pos h5] at hp
        have hN2 := refnum_ev r2 hl2 1073741824
        unfold numR at hN2
        cases hn2 : numS 1073741824 r2 with
        | error e =>
          rw [hn2] at hN2 hp
          simp only [] at hp
          cases hp
          have he := numS_err hn2
          refine Ev.congr (fun q => by rw [if_pos (decide_eq_true h5)]) (Ev.bind hN2 ?_)
          exact Ev.congr (f := fun _ => some _) (fun q => by rw [if_neg (by show ¬ x = 0; omega)]; rfl) (Ev.now _)
        | ok nr =>
          obtain ⟨n2, r3⟩ := nr
          rw [hn2] at hN2 hp
          simp only [] at hp
          have hl3 := Nat.lt_of_le_of_lt (numS_len hn2) hl2
          have hJ := refparse_j0 k1 n1 n2 hk r3 hl3
          refine Ev.congr (fun q => by rw [if_pos (decide_eq_true h5)]) (Ev.bind hN2 (Ev.congr (fun q => by rw [if_pos rfl]) ?_))
          change (match tailS k1 n1 n2 r3 with | .ok c => (c, (0 : Int)) | .error y => ((0, 0, 0, []), y)) = _ at hp
          revert hJ hp
          generalize tailS k1 n1 n2 r3 = E
          intro hJ hp
          cases E with
          | ok c => cases hp; exact hJ
          | error y => cases hp; exact hJ
      · rw [if_neg h5] at hp
        simp only [] at hp
        have hJ := refparse_j0 k1 n1 0 hk r2 hl2
        refine Ev.congr (fun q => by rw [if_neg (by rw [decide_eq_false h5]; decide)]) ?_
        change (match tailS k1 n1 0 r2 with | .ok c => (c, (0 : Int)) | .error y => ((0, 0, 0, []), y)) = _ at hp
        revert hJ hp
        generalize tailS k1 n1 0 r2 = E
        intro hJ hp
        cases E with
        | ok c => cases hp; exact hJ
        | error y => cases hp; exact hJ
end Go.Proofs.YtifdlbdecjlnaaaDoor.PAll
