/- The line's method 'number'. Conditions: those that each theorem states. -/
import Derived.Test.YtifdlbdecjlnaaaDoorTxCal
import Derived.BigQuiet
namespace Go.Proofs.YtifdlbdecjlnaaaDoor.PAll
open Go.RowKit Go.Proofs.YtifdlbdecjlnaaaDoorW.PrintWords Go.Proofs.YtifdlbdecjlnaaaDoorW.PrintLast Go.Proofs.YtifdlbdecjlnaaaDoorW.PrintMore
set_option linter.unusedVariables false
set_option linter.unusedSimpArgs false
theorem drop_dig : ∀ (d r : List UInt8), (∀ b ∈ d, isDig b = true) → (∀ c q, r = c :: q → isDig c = false) → (d ++ r).dropWhile isDig = r
  | [], [], _, _ => rfl
  | [], c :: q, _, h => by
    have := h c q rfl
    simp [List.dropWhile_cons, this]
  | c :: d, r, hd, hr => by
    have := hd c (List.mem_cons_self ..)
    rw [List.cons_append, List.dropWhile_cons, this]
    exact drop_dig d r (fun b hb => hd b (List.mem_cons_of_mem _ hb)) hr
theorem str_ne (c : UInt8) (d : List UInt8) : (Str (c :: d)).toList.isEmpty = false := by
  rw [Go.ByteArray.toList_eq, Str_data]; rfl
theorem str_at0 (c : UInt8) (d : List UInt8) (h : 0 < (Str (c :: d)).size) : (Str (c :: d))[0]'h = c := by
  simp [Str, ByteArray.getElem_eq_getElem_data]
theorem fail_no' (L : Value) (c : Bool) (e : Int) (h : c = true) (w : World) : Calls Tryd.prog 25 #[L, .bool c, .int .i64 e] w fun x w' => x = .returned (.tuple #[]) ∧ w' = w := by
  subst h; exact fail_no L e w
theorem fail_yes' (L : Value) (c : Bool) (e : Int) (h : c = false) (w : World) : Calls Tryd.prog 25 #[L, .bool c, .int .i64 e] w fun x w' => x = .panicked (Wr e) ∧ w' = w := by
  subst h; exact fail_yes L e w
theorem number_space (b : Nat) (l : List UInt8) (hl : ∀ r, l ≠ 32 :: r) (most : Int) (w : World) (hb : Ln b l w) : Calls Tryd.prog 20 #[.pointer (some ⟨b, 0, none⟩), .int .i64 most] w fun e w' => e = .panicked (Wr 2) ∧ w' = w := by
  go_enter Tryd.func20, Tryd.ntmps20
  go_wp2_with (first | (go_at_call 35; refine (space_no b l hl _ hb).mono ?_; rintro e w' ⟨rfl, hw_⟩; obtain rfl := hw_.symm))
  exact ⟨rfl, rfl, rfl⟩
set_option maxHeartbeats 2000000 in
set_option maxRecDepth 100000 in
theorem number_none (b : Nat) (D : List UInt8) (r : List UInt8) (hEq : D = []) (hd : ∀ b ∈ D, isDig b = true) (hr : ∀ c q, r = c :: q → isDig c = false) (hlen : D.length < 1000000) (most : Int) (w : World) (hb : Ln b (32 :: (D ++ r)) w) :
    Calls Tryd.prog 20 #[.pointer (some ⟨b, 0, none⟩), .int .i64 most] w fun e w' => e = .panicked (Wr 2) ∧ Held b (D ++ r) w w' := by
  have hHb := Aside0.mk hb
  have hSp := space_yes b (D ++ r) w hb
  clear hb
  have hx : (Str (D ++ r)).extract 0 D.length = Str D := by rw [Str_extract]; simp
  have htr : ∀ w, Calls Tryd.prog 36 #[.string (Str (D ++ r)), .string ⟨#[48, 49, 50, 51, 52, 53, 54, 55, 56, 57]⟩] w fun e w' => e = .returned (.string (Str r)) ∧ Below w.heap.size w w' := fun w => by
    have := trim_l (D ++ r) w
    rw [drop_dig _ r hd hr] at this
    exact this
  have hsz : (Str (D ++ r)).size = (Str r).size + D.length := by rw [Str_size, Str_size, List.length_append]; omega
  have hdz : (Str D).size = D.length := Str_size _
  have gE : (Str D).toList.isEmpty = true := by rw [hEq, Go.ByteArray.toList_eq]; rfl
  clear hEq
  obtain ⟨n, hn⟩ : ∃ n, decVal D = n := ⟨_, rfl⟩
  obtain ⟨m, hm'⟩ : ∃ m, D.length = m := ⟨_, rfl⟩
  obtain ⟨s, hs⟩ : ∃ s, Str (D ++ r) = s := ⟨_, rfl⟩
  obtain ⟨rB, hrB⟩ : ∃ s, Str r = s := ⟨_, rfl⟩
  obtain ⟨dB, hdB⟩ : ∃ s, Str D = s := ⟨_, rfl⟩
  have tail : ∀ w1, Held b (D ++ r) w w1 → Held b r w (w1.setCell ⟨b, 0, none⟩ (.string rB)) := fun w1 h => hrB ▸ h.set r
  have zeroth : ∀ w1, w1 = w.setCell ⟨b, 0, none⟩ (.string s) → Aside0 (Held b (D ++ r) w w1) ∧ w1.cell? ⟨b, 0, none⟩ = some (.string s) ∧ w1.frozen? ⟨b, 0, none⟩ = false := fun w1 h => by
    have k := (Held.refl hHb.out).set (D ++ r)
    rw [hs, ← h] at k
    exact ⟨⟨k⟩, hs ▸ k.line.cell, k.line.frozen⟩
  have after : ∀ w1 w2, Aside0 (Held b (D ++ r) w w1) → Below w1.heap.size w1 w2 → Aside0 (Held b (D ++ r) w w2) ∧ w2.cell? ⟨b, 0, none⟩ = some (.string s) ∧ w2.frozen? ⟨b, 0, none⟩ = false := fun w1 w2 h hb => by
    have k := h.out.below hb
    exact ⟨⟨k⟩, hs ▸ k.line.cell, k.line.frozen⟩
  rw [hs] at hSp htr hx hsz
  rw [hrB] at htr hsz
  rw [hdB] at hx hdz gE
  rw [hm'] at hx hdz hsz hlen
  clear hs hrB hm' hn hHb
  have hwr : wrap64 ((s.size : Int) - (rB.size : Int)) = (m : Int) := by rw [hsz]; unfold wrap64; omega
  have q0 : (0 : Int) ≤ (m : Int) := by omega
  have q1 : (m : Int) ≤ (s.size : Int) := by omega
  clear hsz hd hr hdB
  go_enter Tryd.func20, Tryd.ntmps20
  go_wp2_with (first | (go_at_call 35; refine (hSp).mono ?_; rintro e w1 ⟨rfl, hw1⟩; obtain ⟨H1, hc1, hz1⟩ := zeroth _ hw1; clear hw1) | (go_at_call 36; refine (htr _).mono ?_; rintro e w2 ⟨rfl, hB⟩; obtain ⟨H2, hc2, hz2⟩ := after _ _ H1 hB; clear hB))
  go_quiet (fail)
  obtain ⟨w3, hw3⟩ : ∃ w3, w2.drewN nq = w3 := ⟨_, rfl⟩
  have hc3 : w3.cell? ⟨b, 0, none⟩ = some (.string s) := by rw [← hw3]; exact hc2
  have hz3 : w3.frozen? ⟨b, 0, none⟩ = false := by rw [← hw3]; exact hz2
  have H3 : Aside0 (Held b (D ++ r) w w3) := ⟨hw3 ▸ H2.out.below (pw_below_drewN (Below.refl _ _) _)⟩
  rw [hw3]
  clear hw3 H2 hc2 hz2 hc1 hz1 H1 hwr hx htr hSp zeroth
  go_wp2_with (first | (go_at_call 25; refine (fail_yes' _ _ _ ?hc_ _).mono ?_; (case hc_ => first | rfl | assumption | (simp [*]; done)); rintro e w' ⟨rfl, hw_⟩; obtain rfl := hw_.symm))
  exact ⟨rfl, rfl, H3.out⟩
set_option maxHeartbeats 2000000 in
set_option maxRecDepth 100000 in
theorem number_zero (b : Nat) (D : List UInt8) (d r : List UInt8) (hEq : D = (48 :: d)) (hd : ∀ b ∈ D, isDig b = true) (hr : ∀ c q, r = c :: q → isDig c = false) (hlen : D.length < 1000000) (most : Int) (w : World) (hb : Ln b (32 :: (D ++ r)) w) :
    Calls Tryd.prog 20 #[.pointer (some ⟨b, 0, none⟩), .int .i64 most] w fun e w' => e = .panicked (Wr 2) ∧ Held b (D ++ r) w w' := by
  have hHb := Aside0.mk hb
  have hSp := space_yes b (D ++ r) w hb
  clear hb
  have hx : (Str (D ++ r)).extract 0 D.length = Str D := by rw [Str_extract]; simp
  have htr : ∀ w, Calls Tryd.prog 36 #[.string (Str (D ++ r)), .string ⟨#[48, 49, 50, 51, 52, 53, 54, 55, 56, 57]⟩] w fun e w' => e = .returned (.string (Str r)) ∧ Below w.heap.size w w' := fun w => by
    have := trim_l (D ++ r) w
    rw [drop_dig _ r hd hr] at this
    exact this
  have hsz : (Str (D ++ r)).size = (Str r).size + D.length := by rw [Str_size, Str_size, List.length_append]; omega
  have hdz : (Str D).size = D.length := Str_size _
  have gE : (Str D).toList.isEmpty = false := by rw [hEq]; exact str_ne 48 d
  have gA : 0 < (Str D).size := by rw [hdz, hEq]; simp
  have g0 : ∀ h, (Str D)[0]'h = 48 := by subst hEq; exact fun h => str_at0 48 d h
  clear hEq
  obtain ⟨n, hn⟩ : ∃ n, decVal D = n := ⟨_, rfl⟩
  obtain ⟨m, hm'⟩ : ∃ m, D.length = m := ⟨_, rfl⟩
  obtain ⟨s, hs⟩ : ∃ s, Str (D ++ r) = s := ⟨_, rfl⟩
  obtain ⟨rB, hrB⟩ : ∃ s, Str r = s := ⟨_, rfl⟩
  obtain ⟨dB, hdB⟩ : ∃ s, Str D = s := ⟨_, rfl⟩
  have tail : ∀ w1, Held b (D ++ r) w w1 → Held b r w (w1.setCell ⟨b, 0, none⟩ (.string rB)) := fun w1 h => hrB ▸ h.set r
  have zeroth : ∀ w1, w1 = w.setCell ⟨b, 0, none⟩ (.string s) → Aside0 (Held b (D ++ r) w w1) ∧ w1.cell? ⟨b, 0, none⟩ = some (.string s) ∧ w1.frozen? ⟨b, 0, none⟩ = false := fun w1 h => by
    have k := (Held.refl hHb.out).set (D ++ r)
    rw [hs, ← h] at k
    exact ⟨⟨k⟩, hs ▸ k.line.cell, k.line.frozen⟩
  have after : ∀ w1 w2, Aside0 (Held b (D ++ r) w w1) → Below w1.heap.size w1 w2 → Aside0 (Held b (D ++ r) w w2) ∧ w2.cell? ⟨b, 0, none⟩ = some (.string s) ∧ w2.frozen? ⟨b, 0, none⟩ = false := fun w1 w2 h hb => by
    have k := h.out.below hb
    exact ⟨⟨k⟩, hs ▸ k.line.cell, k.line.frozen⟩
  rw [hs] at hSp htr hx hsz
  rw [hrB] at htr hsz
  rw [hdB] at hx hdz gE g0 gA
  rw [hm'] at hx hdz hsz hlen
  clear hs hrB hm' hn hHb
  have hwr : wrap64 ((s.size : Int) - (rB.size : Int)) = (m : Int) := by rw [hsz]; unfold wrap64; omega
  have q0 : (0 : Int) ≤ (m : Int) := by omega
  have gM : 0 < m := by rw [hdz] at gA; exact gA
  have gN : (0 : Int) < (m : Int) := by omega
  have q1 : (m : Int) ≤ (s.size : Int) := by omega
  clear hsz hd hr hdB
  go_enter Tryd.func20, Tryd.ntmps20
  go_wp2_with (first | (go_at_call 35; refine (hSp).mono ?_; rintro e w1 ⟨rfl, hw1⟩; obtain ⟨H1, hc1, hz1⟩ := zeroth _ hw1; clear hw1) | (go_at_call 36; refine (htr _).mono ?_; rintro e w2 ⟨rfl, hB⟩; obtain ⟨H2, hc2, hz2⟩ := after _ _ H1 hB; clear hB))
  go_quiet (fail)
  obtain ⟨w3, hw3⟩ : ∃ w3, w2.drewN nq = w3 := ⟨_, rfl⟩
  have hc3 : w3.cell? ⟨b, 0, none⟩ = some (.string s) := by rw [← hw3]; exact hc2
  have hz3 : w3.frozen? ⟨b, 0, none⟩ = false := by rw [← hw3]; exact hz2
  have H3 : Aside0 (Held b (D ++ r) w w3) := ⟨hw3 ▸ H2.out.below (pw_below_drewN (Below.refl _ _) _)⟩
  rw [hw3]
  clear hw3 H2 hc2 hz2 hc1 hz1 H1 hwr hx htr hSp zeroth
  have g1 : (((48 : UInt8).toNat : Int) != 48) = false := by decide
  go_wp2_with (first | (go_at_call 25; refine (fail_yes' _ _ _ ?hc_ _).mono ?_; (case hc_ => first | rfl | assumption | (simp [*]; done)); rintro e w' ⟨rfl, hw_⟩; obtain rfl := hw_.symm))
  exact ⟨rfl, rfl, H3.out⟩
set_option maxHeartbeats 2000000 in
set_option maxRecDepth 100000 in
theorem number_long (b : Nat) (D : List UInt8) (c : UInt8) (d r : List UInt8) (hEq : D = (c :: d)) (hd : ∀ b ∈ D, isDig b = true) (hr : ∀ c q, r = c :: q → isDig c = false) (hlen : D.length < 1000000) (hc : c ≠ 48) (h2 : ¬ D.length ≤ 10) (most : Int) (w : World) (hb : Ln b (32 :: (D ++ r)) w) :
    Calls Tryd.prog 20 #[.pointer (some ⟨b, 0, none⟩), .int .i64 most] w fun e w' => e = .panicked (Wr 1) ∧ Held b (D ++ r) w w' := by
  have hHb := Aside0.mk hb
  have hSp := space_yes b (D ++ r) w hb
  clear hb
  have hx : (Str (D ++ r)).extract 0 D.length = Str D := by rw [Str_extract]; simp
  have htr : ∀ w, Calls Tryd.prog 36 #[.string (Str (D ++ r)), .string ⟨#[48, 49, 50, 51, 52, 53, 54, 55, 56, 57]⟩] w fun e w' => e = .returned (.string (Str r)) ∧ Below w.heap.size w w' := fun w => by
    have := trim_l (D ++ r) w
    rw [drop_dig _ r hd hr] at this
    exact this
  have hsz : (Str (D ++ r)).size = (Str r).size + D.length := by rw [Str_size, Str_size, List.length_append]; omega
  have hdz : (Str D).size = D.length := Str_size _
  have gE : (Str D).toList.isEmpty = false := by rw [hEq]; exact str_ne c d
  have gA : 0 < (Str D).size := by rw [hdz, hEq]; simp
  have g0 : ∀ h, (Str D)[0]'h = c := by subst hEq; exact fun h => str_at0 c d h
  have g48 : ((c.toNat : Int) != 48) = true := by
    rw [bne_iff_ne]
    intro h
    exact hc (UInt8.toNat_inj.mp (by have : (48 : UInt8).toNat = 48 := rfl; omega))
  clear hEq
  obtain ⟨n, hn⟩ : ∃ n, decVal D = n := ⟨_, rfl⟩
  obtain ⟨m, hm'⟩ : ∃ m, D.length = m := ⟨_, rfl⟩
  obtain ⟨s, hs⟩ : ∃ s, Str (D ++ r) = s := ⟨_, rfl⟩
  obtain ⟨rB, hrB⟩ : ∃ s, Str r = s := ⟨_, rfl⟩
  obtain ⟨dB, hdB⟩ : ∃ s, Str D = s := ⟨_, rfl⟩
  have tail : ∀ w1, Held b (D ++ r) w w1 → Held b r w (w1.setCell ⟨b, 0, none⟩ (.string rB)) := fun w1 h => hrB ▸ h.set r
  have zeroth : ∀ w1, w1 = w.setCell ⟨b, 0, none⟩ (.string s) → Aside0 (Held b (D ++ r) w w1) ∧ w1.cell? ⟨b, 0, none⟩ = some (.string s) ∧ w1.frozen? ⟨b, 0, none⟩ = false := fun w1 h => by
    have k := (Held.refl hHb.out).set (D ++ r)
    rw [hs, ← h] at k
    exact ⟨⟨k⟩, hs ▸ k.line.cell, k.line.frozen⟩
  have after : ∀ w1 w2, Aside0 (Held b (D ++ r) w w1) → Below w1.heap.size w1 w2 → Aside0 (Held b (D ++ r) w w2) ∧ w2.cell? ⟨b, 0, none⟩ = some (.string s) ∧ w2.frozen? ⟨b, 0, none⟩ = false := fun w1 w2 h hb => by
    have k := h.out.below hb
    exact ⟨⟨k⟩, hs ▸ k.line.cell, k.line.frozen⟩
  rw [hs] at hSp htr hx hsz
  rw [hrB] at htr hsz
  rw [hdB] at hx hdz gE g0 gA
  rw [hm'] at hx hdz hsz hlen h2
  clear hs hrB hm' hn hHb
  have hwr : wrap64 ((s.size : Int) - (rB.size : Int)) = (m : Int) := by rw [hsz]; unfold wrap64; omega
  have q0 : (0 : Int) ≤ (m : Int) := by omega
  have gM : 0 < m := by rw [hdz] at gA; exact gA
  have gN : (0 : Int) < (m : Int) := by omega
  have q1 : (m : Int) ≤ (s.size : Int) := by omega
  clear hsz hd hr hdB
  go_enter Tryd.func20, Tryd.ntmps20
  go_wp2_with (first | (go_at_call 35; refine (hSp).mono ?_; rintro e w1 ⟨rfl, hw1⟩; obtain ⟨H1, hc1, hz1⟩ := zeroth _ hw1; clear hw1) | (go_at_call 36; refine (htr _).mono ?_; rintro e w2 ⟨rfl, hB⟩; obtain ⟨H2, hc2, hz2⟩ := after _ _ H1 hB; clear hB))
  go_quiet (fail)
  obtain ⟨w3, hw3⟩ : ∃ w3, w2.drewN nq = w3 := ⟨_, rfl⟩
  have hc3 : w3.cell? ⟨b, 0, none⟩ = some (.string s) := by rw [← hw3]; exact hc2
  have hz3 : w3.frozen? ⟨b, 0, none⟩ = false := by rw [← hw3]; exact hz2
  have H3 : Aside0 (Held b (D ++ r) w w3) := ⟨hw3 ▸ H2.out.below (pw_below_drewN (Below.refl _ _) _)⟩
  rw [hw3]
  clear hw3 H2 hc2 hz2 hc1 hz1 H1 hwr hx htr hSp zeroth
  have g5 : decide ((m : Int) ≤ 10) = false := decide_eq_false (by omega)
  go_wp2_with (first | (go_at_call 25; refine (fail_no' _ _ _ ?hc_ _).mono ?_; (case hc_ => first | rfl | assumption | (simp [*]; done)); rintro e w' ⟨rfl, hw_⟩; obtain rfl := hw_.symm) | (go_at_call 25; refine (fail_yes' _ _ _ ?hc_ _).mono ?_; (case hc_ => first | rfl | assumption | (simp [*]; done)); rintro e w' ⟨rfl, hw_⟩; obtain rfl := hw_.symm))
  exact ⟨rfl, rfl, H3.out⟩
set_option maxHeartbeats 2000000 in
set_option maxRecDepth 100000 in
theorem number_big (b : Nat) (D : List UInt8) (c : UInt8) (d r : List UInt8) (hEq : D = (c :: d)) (hd : ∀ b ∈ D, isDig b = true) (hr : ∀ c q, r = c :: q → isDig c = false) (hlen : D.length < 1000000) (hc : c ≠ 48) (h2 : D.length ≤ 10) (most : Int) (w : World) (hb : Ln b (32 :: (D ++ r)) w) (hbig : most < (decVal D : Int)) :
    Calls Tryd.prog 20 #[.pointer (some ⟨b, 0, none⟩), .int .i64 most] w fun e w' => e = .panicked (Wr 1) ∧ Held b (D ++ r) w w' := by
  have hHb := Aside0.mk hb
  have hSp := space_yes b (D ++ r) w hb
  clear hb
  have hx : (Str (D ++ r)).extract 0 D.length = Str D := by rw [Str_extract]; simp
  have htr : ∀ w, Calls Tryd.prog 36 #[.string (Str (D ++ r)), .string ⟨#[48, 49, 50, 51, 52, 53, 54, 55, 56, 57]⟩] w fun e w' => e = .returned (.string (Str r)) ∧ Below w.heap.size w w' := fun w => by
    have := trim_l (D ++ r) w
    rw [drop_dig _ r hd hr] at this
    exact this
  have hsz : (Str (D ++ r)).size = (Str r).size + D.length := by rw [Str_size, Str_size, List.length_append]; omega
  have hdz : (Str D).size = D.length := Str_size _
  have gE : (Str D).toList.isEmpty = false := by rw [hEq]; exact str_ne c d
  have gA : 0 < (Str D).size := by rw [hdz, hEq]; simp
  have g0 : ∀ h, (Str D)[0]'h = c := by subst hEq; exact fun h => str_at0 c d h
  have g48 : ((c.toNat : Int) != 48) = true := by
    rw [bne_iff_ne]
    intro h
    exact hc (UInt8.toNat_inj.mp (by have : (48 : UInt8).toNat = 48 := rfl; omega))
  have hat := atoi_l D hd (by rw [hEq]; simp) h2
  clear hEq
  obtain ⟨n, hn⟩ : ∃ n, decVal D = n := ⟨_, rfl⟩
  obtain ⟨m, hm'⟩ : ∃ m, D.length = m := ⟨_, rfl⟩
  obtain ⟨s, hs⟩ : ∃ s, Str (D ++ r) = s := ⟨_, rfl⟩
  obtain ⟨rB, hrB⟩ : ∃ s, Str r = s := ⟨_, rfl⟩
  obtain ⟨dB, hdB⟩ : ∃ s, Str D = s := ⟨_, rfl⟩
  have tail : ∀ w1, Held b (D ++ r) w w1 → Held b r w (w1.setCell ⟨b, 0, none⟩ (.string rB)) := fun w1 h => hrB ▸ h.set r
  have zeroth : ∀ w1, w1 = w.setCell ⟨b, 0, none⟩ (.string s) → Aside0 (Held b (D ++ r) w w1) ∧ w1.cell? ⟨b, 0, none⟩ = some (.string s) ∧ w1.frozen? ⟨b, 0, none⟩ = false := fun w1 h => by
    have k := (Held.refl hHb.out).set (D ++ r)
    rw [hs, ← h] at k
    exact ⟨⟨k⟩, hs ▸ k.line.cell, k.line.frozen⟩
  have after : ∀ w1 w2, Aside0 (Held b (D ++ r) w w1) → Below w1.heap.size w1 w2 → Aside0 (Held b (D ++ r) w w2) ∧ w2.cell? ⟨b, 0, none⟩ = some (.string s) ∧ w2.frozen? ⟨b, 0, none⟩ = false := fun w1 w2 h hb => by
    have k := h.out.below hb
    exact ⟨⟨k⟩, hs ▸ k.line.cell, k.line.frozen⟩
  rw [hs] at hSp htr hx hsz
  rw [hrB] at htr hsz
  rw [hdB] at hx hdz gE g0 gA hat
  rw [hm'] at hx hdz hsz hlen h2
  rw [hn] at hat hbig
  clear hs hrB hm' hn hHb
  have hwr : wrap64 ((s.size : Int) - (rB.size : Int)) = (m : Int) := by rw [hsz]; unfold wrap64; omega
  have q0 : (0 : Int) ≤ (m : Int) := by omega
  have gM : 0 < m := by rw [hdz] at gA; exact gA
  have gN : (0 : Int) < (m : Int) := by omega
  have q1 : (m : Int) ≤ (s.size : Int) := by omega
  clear hsz hd hr hdB
  go_enter Tryd.func20, Tryd.ntmps20
  go_wp2_with (first | (go_at_call 35; refine (hSp).mono ?_; rintro e w1 ⟨rfl, hw1⟩; obtain ⟨H1, hc1, hz1⟩ := zeroth _ hw1; clear hw1) | (go_at_call 36; refine (htr _).mono ?_; rintro e w2 ⟨rfl, hB⟩; obtain ⟨H2, hc2, hz2⟩ := after _ _ H1 hB; clear hB))
  go_quiet (fail)
  obtain ⟨w3, hw3⟩ : ∃ w3, w2.drewN nq = w3 := ⟨_, rfl⟩
  have hc3 : w3.cell? ⟨b, 0, none⟩ = some (.string s) := by rw [← hw3]; exact hc2
  have hz3 : w3.frozen? ⟨b, 0, none⟩ = false := by rw [← hw3]; exact hz2
  have H3 : Aside0 (Held b (D ++ r) w w3) := ⟨hw3 ▸ H2.out.below (pw_below_drewN (Below.refl _ _) _)⟩
  rw [hw3]
  clear hw3 H2 hc2 hz2 hc1 hz1 H1 hwr hx htr hSp zeroth
  have g5 : decide ((m : Int) ≤ 10) = true := decide_eq_true (by omega)
  have g6 : decide ((n : Int) ≤ most) = false := decide_eq_false (by omega)
  go_wp2_with (first | (go_at_call 25; refine (fail_no' _ _ _ ?hc_ _).mono ?_; (case hc_ => first | rfl | assumption | (simp [*]; done)); rintro e w' ⟨rfl, hw_⟩; obtain rfl := hw_.symm) | (go_at_call 25; refine (fail_yes' _ _ _ ?hc_ _).mono ?_; (case hc_ => first | rfl | assumption | (simp [*]; done)); rintro e w' ⟨rfl, hw_⟩; obtain rfl := hw_.symm) | (go_at_call 37; refine (hat _).mono ?_; rintro e w4 ⟨rfl, hB⟩; obtain ⟨H4, hc4, hz4⟩ := after _ _ H3 hB; clear hB))
  exact ⟨rfl, rfl, H4.out⟩
set_option maxHeartbeats 2000000 in
set_option maxRecDepth 100000 in
theorem number_ok (b : Nat) (D : List UInt8) (c : UInt8) (d r : List UInt8) (hEq : D = (c :: d)) (hd : ∀ b ∈ D, isDig b = true) (hr : ∀ c q, r = c :: q → isDig c = false) (hlen : D.length < 1000000) (hc : c ≠ 48) (h2 : D.length ≤ 10) (most : Int) (w : World) (hb : Ln b (32 :: (D ++ r)) w) (hbig : (decVal D : Int) ≤ most) :
    Calls Tryd.prog 20 #[.pointer (some ⟨b, 0, none⟩), .int .i64 most] w fun e w' => e = .returned (.int .i64 (decVal D : Nat)) ∧ Held b r w w' := by
  have hHb := Aside0.mk hb
  have hSp := space_yes b (D ++ r) w hb
  clear hb
  have hx : (Str (D ++ r)).extract 0 D.length = Str D := by rw [Str_extract]; simp
  have htr : ∀ w, Calls Tryd.prog 36 #[.string (Str (D ++ r)), .string ⟨#[48, 49, 50, 51, 52, 53, 54, 55, 56, 57]⟩] w fun e w' => e = .returned (.string (Str r)) ∧ Below w.heap.size w w' := fun w => by
    have := trim_l (D ++ r) w
    rw [drop_dig _ r hd hr] at this
    exact this
  have hsz : (Str (D ++ r)).size = (Str r).size + D.length := by rw [Str_size, Str_size, List.length_append]; omega
  have hdz : (Str D).size = D.length := Str_size _
  have gE : (Str D).toList.isEmpty = false := by rw [hEq]; exact str_ne c d
  have gA : 0 < (Str D).size := by rw [hdz, hEq]; simp
  have g0 : ∀ h, (Str D)[0]'h = c := by subst hEq; exact fun h => str_at0 c d h
  have g48 : ((c.toNat : Int) != 48) = true := by
    rw [bne_iff_ne]
    intro h
    exact hc (UInt8.toNat_inj.mp (by have : (48 : UInt8).toNat = 48 := rfl; omega))
  have hat := atoi_l D hd (by rw [hEq]; simp) h2
  clear hEq
  obtain ⟨n, hn⟩ : ∃ n, decVal D = n := ⟨_, rfl⟩
  obtain ⟨m, hm'⟩ : ∃ m, D.length = m := ⟨_, rfl⟩
  obtain ⟨s, hs⟩ : ∃ s, Str (D ++ r) = s := ⟨_, rfl⟩
  obtain ⟨rB, hrB⟩ : ∃ s, Str r = s := ⟨_, rfl⟩
  obtain ⟨dB, hdB⟩ : ∃ s, Str D = s := ⟨_, rfl⟩
  have tail : ∀ w1, Held b (D ++ r) w w1 → Held b r w (w1.setCell ⟨b, 0, none⟩ (.string rB)) := fun w1 h => hrB ▸ h.set r
  have zeroth : ∀ w1, w1 = w.setCell ⟨b, 0, none⟩ (.string s) → Aside0 (Held b (D ++ r) w w1) ∧ w1.cell? ⟨b, 0, none⟩ = some (.string s) ∧ w1.frozen? ⟨b, 0, none⟩ = false := fun w1 h => by
    have k := (Held.refl hHb.out).set (D ++ r)
    rw [hs, ← h] at k
    exact ⟨⟨k⟩, hs ▸ k.line.cell, k.line.frozen⟩
  have after : ∀ w1 w2, Aside0 (Held b (D ++ r) w w1) → Below w1.heap.size w1 w2 → Aside0 (Held b (D ++ r) w w2) ∧ w2.cell? ⟨b, 0, none⟩ = some (.string s) ∧ w2.frozen? ⟨b, 0, none⟩ = false := fun w1 w2 h hb => by
    have k := h.out.below hb
    exact ⟨⟨k⟩, hs ▸ k.line.cell, k.line.frozen⟩
  rw [hs] at hSp htr hx hsz
  rw [hrB] at htr hsz
  rw [hdB] at hx hdz gE g0 gA hat
  rw [hm'] at hx hdz hsz hlen h2
  rw [hn] at hat hbig ⊢
  clear hs hrB hm' hn hHb
  have hwr : wrap64 ((s.size : Int) - (rB.size : Int)) = (m : Int) := by rw [hsz]; unfold wrap64; omega
  have q0 : (0 : Int) ≤ (m : Int) := by omega
  have gM : 0 < m := by rw [hdz] at gA; exact gA
  have gN : (0 : Int) < (m : Int) := by omega
  have q1 : (m : Int) ≤ (s.size : Int) := by omega
  clear hsz hd hr hdB
  go_enter Tryd.func20, Tryd.ntmps20
  go_wp2_with (first | (go_at_call 35; refine (hSp).mono ?_; rintro e w1 ⟨rfl, hw1⟩; obtain ⟨H1, hc1, hz1⟩ := zeroth _ hw1; clear hw1) | (go_at_call 36; refine (htr _).mono ?_; rintro e w2 ⟨rfl, hB⟩; obtain ⟨H2, hc2, hz2⟩ := after _ _ H1 hB; clear hB))
  go_quiet (fail)
  obtain ⟨w3, hw3⟩ : ∃ w3, w2.drewN nq = w3 := ⟨_, rfl⟩
  have hc3 : w3.cell? ⟨b, 0, none⟩ = some (.string s) := by rw [← hw3]; exact hc2
  have hz3 : w3.frozen? ⟨b, 0, none⟩ = false := by rw [← hw3]; exact hz2
  have H3 : Aside0 (Held b (D ++ r) w w3) := ⟨hw3 ▸ H2.out.below (pw_below_drewN (Below.refl _ _) _)⟩
  rw [hw3]
  clear hw3 H2 hc2 hz2 hc1 hz1 H1 hwr hx htr hSp zeroth
  have g5 : decide ((m : Int) ≤ 10) = true := decide_eq_true (by omega)
  have g6 : decide ((n : Int) ≤ most) = true := decide_eq_true (by omega)
  go_wp2_with (first | (go_at_call 25; refine (fail_no' _ _ _ ?hc_ _).mono ?_; (case hc_ => first | rfl | assumption | (simp [*]; done)); rintro e w' ⟨rfl, hw_⟩; obtain rfl := hw_.symm) | (go_at_call 37; refine (hat _).mono ?_; rintro e w4 ⟨rfl, hB⟩; obtain ⟨H4, hc4, hz4⟩ := after _ _ H3 hB; clear hB))
  go_ret
  exact ⟨rfl, tail _ H4.out⟩
end Go.Proofs.YtifdlbdecjlnaaaDoor.PAll
