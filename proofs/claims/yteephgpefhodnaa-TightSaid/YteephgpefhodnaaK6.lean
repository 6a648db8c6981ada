/- The walk of Tight. -/
import Derived.Test.YteephgpefhodnaaKA
namespace Go.Proofs.Yteephgpefhodnaa
open Go.RowKit Go.Sort Go.Fl
set_option linter.unusedSimpArgs false
set_option linter.unusedVariables false

set_option maxHeartbeats 4000000 in
theorem tight_n6_nan (a b op : Int) (x y : Nat) (hb1 : -9223372036854775808 ≤ op) (hb2 : op ≤ 9223372036854775807) (hneg : op < 0) (ho : (-(op + 1)).tmod 5 = 0)
    (hOX : ∀ w, Calls Try.prog 39 #[.int .u64 a] w fun e w' => e = .returned (.float .f64 x) ∧ w = w')
    (hOY : ∀ w, Calls Try.prog 39 #[.int .u64 b] w fun e w' => e = .returned (.float .f64 y) ∧ w = w')
    (hRD : ∀ w, Calls Try.prog 35 #[.int .i64 6, .float .f64 x, .float .f64 y, .bool false] w fun e w' => e = .returned (.float .f64 (NANW)) ∧ Below w.heap.size w w')
    (hRU : ∀ w, Calls Try.prog 35 #[.int .i64 6, .float .f64 x, .float .f64 y, .bool true] w fun e w' => e = .returned (.float .f64 (NANW)) ∧ Below w.heap.size w w') (w : World) :
    Calls Try.prog 10 #[.int .u64 a, .int .u64 b, .int .i64 op] w fun e w' => e = .returned (.bool true) ∧ Below w.heap.size w w' := by
  have AL := Lib.hid alive_any
  have nN := nan_NANW
  have OX := Lib.hid hOX
  have OY := Lib.hid hOY
  have RD := Lib.hid hRD
  have RU := Lib.hid hRU
  clear hOX hOY hRD hRU
  go_enter Try.func10, Try.ntmps10
  go_wp2_with fail
  refine (AL.out _).mono ?_
  rintro e w1 ⟨rfl, hbw1⟩
  have B := hbw1
  clear hbw1
  go_wp2_with (first | (go_at_call 39; (first | (with_reducible refine (OX.out _).mono ?_) | (with_reducible refine (OY.out _).mono ?_)); rintro e w' ⟨rfl, rfl⟩))
  refine (RD.out _).mono ?_
  rintro e w2 ⟨rfl, hbw2⟩
  have nB : w.heap.size ≤ w1.heap.size := B.size
  have A0_0 : At (World.alloc w1 (.cells #[.int .i64 (6), .int .i64 (7), .int .i64 (8), .int .i64 (9), .int .i64 (3)] 37)) (w1.heap.size) 0 (.int .i64 (6)) := ⟨by simp [go_sem], by simp [go_sem]⟩
  replace A0_0 := At.below A0_0 hbw2
  have A0_1 : At (World.alloc w1 (.cells #[.int .i64 (6), .int .i64 (7), .int .i64 (8), .int .i64 (9), .int .i64 (3)] 37)) (w1.heap.size) 1 (.int .i64 (7)) := ⟨by simp [go_sem], by simp [go_sem]⟩
  replace A0_1 := At.below A0_1 hbw2
  have A0_2 : At (World.alloc w1 (.cells #[.int .i64 (6), .int .i64 (7), .int .i64 (8), .int .i64 (9), .int .i64 (3)] 37)) (w1.heap.size) 2 (.int .i64 (8)) := ⟨by simp [go_sem], by simp [go_sem]⟩
  replace A0_2 := At.below A0_2 hbw2
  have A0_3 : At (World.alloc w1 (.cells #[.int .i64 (6), .int .i64 (7), .int .i64 (8), .int .i64 (9), .int .i64 (3)] 37)) (w1.heap.size) 3 (.int .i64 (9)) := ⟨by simp [go_sem], by simp [go_sem]⟩
  replace A0_3 := At.below A0_3 hbw2
  have A0_4 : At (World.alloc w1 (.cells #[.int .i64 (6), .int .i64 (7), .int .i64 (8), .int .i64 (9), .int .i64 (3)] 37)) (w1.heap.size) 4 (.int .i64 (3)) := ⟨by simp [go_sem], by simp [go_sem]⟩
  replace A0_4 := At.below A0_4 hbw2
  replace B := below_step B B.size (below_alloc (hbw2))
  clear hbw2
  have F0_0 := A0_0.1; have G0_0 := A0_0.2
  have F0_1 := A0_1.1; have G0_1 := A0_1.2
  have F0_2 := A0_2.1; have G0_2 := A0_2.2
  have F0_3 := A0_3.1; have G0_3 := A0_3.2
  have F0_4 := A0_4.1; have G0_4 := A0_4.2
  have Z0 := A0_0.lt
  go_wp2_with (first | (go_at_call 39; (first | (with_reducible refine (OX.out _).mono ?_) | (with_reducible refine (OY.out _).mono ?_)); rintro e w' ⟨rfl, rfl⟩))
  refine (RU.out _).mono ?_
  rintro e w3 ⟨rfl, hbw3⟩
  clear F0_0 G0_0 F0_1 G0_1 F0_2 G0_2 F0_3 G0_3 F0_4 G0_4 Z0
  replace A0_0 := At.below (A0_0) hbw3
  replace A0_1 := At.below (A0_1) hbw3
  replace A0_2 := At.below (A0_2) hbw3
  replace A0_3 := At.below (A0_3) hbw3
  replace A0_4 := At.below (A0_4) hbw3
  replace B := below_step B B.size (hbw3)
  clear hbw3
  have F0_0 := A0_0.1; have G0_0 := A0_0.2
  have F0_1 := A0_1.1; have G0_1 := A0_1.2
  have F0_2 := A0_2.1; have G0_2 := A0_2.2
  have F0_3 := A0_3.1; have G0_3 := A0_3.2
  have F0_4 := A0_4.1; have G0_4 := A0_4.2
  have Z0 := A0_0.lt
  go_wp2_with fail
  go_ret
  exact ⟨rfl, B⟩

set_option maxHeartbeats 4000000 in
theorem tight_n6_num (a b op : Int) (x y : Nat) (hb1 : -9223372036854775808 ≤ op) (hb2 : op ≤ 9223372036854775807) (hneg : op < 0) (ho : (-(op + 1)).tmod 5 = 0) (L H U D N : Int) (rL : Rg L) (rH : Rg H) (rU : Rg U) (rD : Rg D) (rN : Rg N) (q1 : L = H ∨ (U = H ∧ D = L)) (q2 : N = L ∨ L = U)
    (hOX : ∀ w, Calls Try.prog 39 #[.int .u64 a] w fun e w' => e = .returned (.float .f64 x) ∧ w = w')
    (hOY : ∀ w, Calls Try.prog 39 #[.int .u64 b] w fun e w' => e = .returned (.float .f64 y) ∧ w = w')
    (hRD : ∀ w, Calls Try.prog 35 #[.int .i64 6, .float .f64 x, .float .f64 y, .bool false] w fun e w' => e = .returned (.float .f64 (ofKey L)) ∧ Below w.heap.size w w')
    (hRU : ∀ w, Calls Try.prog 35 #[.int .i64 6, .float .f64 x, .float .f64 y, .bool true] w fun e w' => e = .returned (.float .f64 (ofKey H)) ∧ Below w.heap.size w w')
    (hUP : ∀ w, Calls Try.prog 19 #[.float .f64 (ofKey L)] w fun e w' => e = .returned (.float .f64 (ofKey U)) ∧ w = w')
    (hDN : ∀ w, Calls Try.prog 20 #[.float .f64 (ofKey H)] w fun e w' => e = .returned (.float .f64 (ofKey D)) ∧ w = w')
    (hDU : ∀ w, Calls Try.prog 20 #[.float .f64 (ofKey U)] w fun e w' => e = .returned (.float .f64 (ofKey N)) ∧ w = w') (w : World) :
    Calls Try.prog 10 #[.int .u64 a, .int .u64 b, .int .i64 op] w fun e w' => e = .returned (.bool true) ∧ Below w.heap.size w w' := by
  have AL := Lib.hid alive_any
  have nN := nan_NANW
  have OX := Lib.hid hOX
  have OY := Lib.hid hOY
  have RD := Lib.hid hRD
  have RU := Lib.hid hRU
  have UP := Lib.hid hUP
  have DN := Lib.hid hDN
  have DU := Lib.hid hDU
  clear hOX hOY hRD hRU hUP hDN hDU
  go_enter Try.func10, Try.ntmps10
  go_wp2_with fail
  refine (AL.out _).mono ?_
  rintro e w1 ⟨rfl, hbw1⟩
  have B := hbw1
  clear hbw1
  go_wp2_with (first | (go_at_call 39; (first | (with_reducible refine (OX.out _).mono ?_) | (with_reducible refine (OY.out _).mono ?_)); rintro e w' ⟨rfl, rfl⟩) | (go_at_call 19; refine (UP.out _).mono ?_; rintro e w' ⟨rfl, rfl⟩) | (go_at_call 20; (first | (with_reducible refine (DN.out _).mono ?_) | (with_reducible refine (DU.out _).mono ?_)); rintro e w' ⟨rfl, rfl⟩))
  refine (RD.out _).mono ?_
  rintro e w2 ⟨rfl, hbw2⟩
  have nB : w.heap.size ≤ w1.heap.size := B.size
  have A0_0 : At (World.alloc w1 (.cells #[.int .i64 (6), .int .i64 (7), .int .i64 (8), .int .i64 (9), .int .i64 (3)] 37)) (w1.heap.size) 0 (.int .i64 (6)) := ⟨by simp [go_sem], by simp [go_sem]⟩
  replace A0_0 := At.below A0_0 hbw2
  have A0_1 : At (World.alloc w1 (.cells #[.int .i64 (6), .int .i64 (7), .int .i64 (8), .int .i64 (9), .int .i64 (3)] 37)) (w1.heap.size) 1 (.int .i64 (7)) := ⟨by simp [go_sem], by simp [go_sem]⟩
  replace A0_1 := At.below A0_1 hbw2
  have A0_2 : At (World.alloc w1 (.cells #[.int .i64 (6), .int .i64 (7), .int .i64 (8), .int .i64 (9), .int .i64 (3)] 37)) (w1.heap.size) 2 (.int .i64 (8)) := ⟨by simp [go_sem], by simp [go_sem]⟩
  replace A0_2 := At.below A0_2 hbw2
  have A0_3 : At (World.alloc w1 (.cells #[.int .i64 (6), .int .i64 (7), .int .i64 (8), .int .i64 (9), .int .i64 (3)] 37)) (w1.heap.size) 3 (.int .i64 (9)) := ⟨by simp [go_sem], by simp [go_sem]⟩
  replace A0_3 := At.below A0_3 hbw2
  have A0_4 : At (World.alloc w1 (.cells #[.int .i64 (6), .int .i64 (7), .int .i64 (8), .int .i64 (9), .int .i64 (3)] 37)) (w1.heap.size) 4 (.int .i64 (3)) := ⟨by simp [go_sem], by simp [go_sem]⟩
  replace A0_4 := At.below A0_4 hbw2
  replace B := below_step B B.size (below_alloc (hbw2))
  clear hbw2
  have F0_0 := A0_0.1; have G0_0 := A0_0.2
  have F0_1 := A0_1.1; have G0_1 := A0_1.2
  have F0_2 := A0_2.1; have G0_2 := A0_2.2
  have F0_3 := A0_3.1; have G0_3 := A0_3.2
  have F0_4 := A0_4.1; have G0_4 := A0_4.2
  have Z0 := A0_0.lt
  go_wp2_with (first | (go_at_call 39; (first | (with_reducible refine (OX.out _).mono ?_) | (with_reducible refine (OY.out _).mono ?_)); rintro e w' ⟨rfl, rfl⟩) | (go_at_call 19; refine (UP.out _).mono ?_; rintro e w' ⟨rfl, rfl⟩) | (go_at_call 20; (first | (with_reducible refine (DN.out _).mono ?_) | (with_reducible refine (DU.out _).mono ?_)); rintro e w' ⟨rfl, rfl⟩))
  refine (RU.out _).mono ?_
  rintro e w3 ⟨rfl, hbw3⟩
  clear F0_0 G0_0 F0_1 G0_1 F0_2 G0_2 F0_3 G0_3 F0_4 G0_4 Z0
  replace A0_0 := At.below (A0_0) hbw3
  replace A0_1 := At.below (A0_1) hbw3
  replace A0_2 := At.below (A0_2) hbw3
  replace A0_3 := At.below (A0_3) hbw3
  replace A0_4 := At.below (A0_4) hbw3
  replace B := below_step B B.size (hbw3)
  clear hbw3
  have F0_0 := A0_0.1; have G0_0 := A0_0.2
  have F0_1 := A0_1.1; have G0_1 := A0_1.2
  have F0_2 := A0_2.1; have G0_2 := A0_2.2
  have F0_3 := A0_3.1; have G0_3 := A0_3.2
  have F0_4 := A0_4.1; have G0_4 := A0_4.2
  have Z0 := A0_0.lt
  rcases q1 with rfl | ⟨rfl, rfl⟩ <;> rcases q2 with rfl | rfl
  all_goals (go_wp2_with (first | (go_at_call 39; (first | (with_reducible refine (OX.out _).mono ?_) | (with_reducible refine (OY.out _).mono ?_)); rintro e w' ⟨rfl, rfl⟩) | (go_at_call 19; refine (UP.out _).mono ?_; rintro e w' ⟨rfl, rfl⟩) | (go_at_call 20; (first | (with_reducible refine (DN.out _).mono ?_) | (with_reducible refine (DU.out _).mono ?_)); rintro e w' ⟨rfl, rfl⟩)))
  all_goals go_ret
  all_goals exact ⟨ret_b (by (first | rfl | (refine (decide_eq_true ?_).symm; omega) | (refine (decide_eq_false ?_).symm; omega) | (refine decide_eq_decide.2 ?_; omega) | (rw [Bool.eq_iff_iff]; simp only [Bool.and_eq_true, Bool.or_eq_true, Bool.not_eq_true, Bool.not_eq_eq_eq_not, Bool.not_true, Bool.not_false, decide_eq_true_eq, decide_eq_false_iff_not, Bool.false_eq_true, true_iff, false_iff] <;> omega))), B⟩

set_option maxHeartbeats 4000000 in
theorem tight_n7_nan (a b op : Int) (x y : Nat) (hb1 : -9223372036854775808 ≤ op) (hb2 : op ≤ 9223372036854775807) (hneg : op < 0) (ho : (-(op + 1)).tmod 5 = 1)
    (hOX : ∀ w, Calls Try.prog 39 #[.int .u64 a] w fun e w' => e = .returned (.float .f64 x) ∧ w = w')
    (hOY : ∀ w, Calls Try.prog 39 #[.int .u64 b] w fun e w' => e = .returned (.float .f64 y) ∧ w = w')
    (hRD : ∀ w, Calls Try.prog 35 #[.int .i64 7, .float .f64 x, .float .f64 y, .bool false] w fun e w' => e = .returned (.float .f64 (NANW)) ∧ Below w.heap.size w w')
    (hRU : ∀ w, Calls Try.prog 35 #[.int .i64 7, .float .f64 x, .float .f64 y, .bool true] w fun e w' => e = .returned (.float .f64 (NANW)) ∧ Below w.heap.size w w') (w : World) :
    Calls Try.prog 10 #[.int .u64 a, .int .u64 b, .int .i64 op] w fun e w' => e = .returned (.bool true) ∧ Below w.heap.size w w' := by
  have AL := Lib.hid alive_any
  have nN := nan_NANW
  have OX := Lib.hid hOX
  have OY := Lib.hid hOY
  have RD := Lib.hid hRD
  have RU := Lib.hid hRU
  clear hOX hOY hRD hRU
  go_enter Try.func10, Try.ntmps10
  go_wp2_with fail
  refine (AL.out _).mono ?_
  rintro e w1 ⟨rfl, hbw1⟩
  have B := hbw1
  clear hbw1
  go_wp2_with (first | (go_at_call 39; (first | (with_reducible refine (OX.out _).mono ?_) | (with_reducible refine (OY.out _).mono ?_)); rintro e w' ⟨rfl, rfl⟩))
  refine (RD.out _).mono ?_
  rintro e w2 ⟨rfl, hbw2⟩
  have nB : w.heap.size ≤ w1.heap.size := B.size
  have A0_0 : At (World.alloc w1 (.cells #[.int .i64 (6), .int .i64 (7), .int .i64 (8), .int .i64 (9), .int .i64 (3)] 37)) (w1.heap.size) 0 (.int .i64 (6)) := ⟨by simp [go_sem], by simp [go_sem]⟩
  replace A0_0 := At.below A0_0 hbw2
  have A0_1 : At (World.alloc w1 (.cells #[.int .i64 (6), .int .i64 (7), .int .i64 (8), .int .i64 (9), .int .i64 (3)] 37)) (w1.heap.size) 1 (.int .i64 (7)) := ⟨by simp [go_sem], by simp [go_sem]⟩
  replace A0_1 := At.below A0_1 hbw2
  have A0_2 : At (World.alloc w1 (.cells #[.int .i64 (6), .int .i64 (7), .int .i64 (8), .int .i64 (9), .int .i64 (3)] 37)) (w1.heap.size) 2 (.int .i64 (8)) := ⟨by simp [go_sem], by simp [go_sem]⟩
  replace A0_2 := At.below A0_2 hbw2
  have A0_3 : At (World.alloc w1 (.cells #[.int .i64 (6), .int .i64 (7), .int .i64 (8), .int .i64 (9), .int .i64 (3)] 37)) (w1.heap.size) 3 (.int .i64 (9)) := ⟨by simp [go_sem], by simp [go_sem]⟩
  replace A0_3 := At.below A0_3 hbw2
  have A0_4 : At (World.alloc w1 (.cells #[.int .i64 (6), .int .i64 (7), .int .i64 (8), .int .i64 (9), .int .i64 (3)] 37)) (w1.heap.size) 4 (.int .i64 (3)) := ⟨by simp [go_sem], by simp [go_sem]⟩
  replace A0_4 := At.below A0_4 hbw2
  replace B := below_step B B.size (below_alloc (hbw2))
  clear hbw2
  have F0_0 := A0_0.1; have G0_0 := A0_0.2
  have F0_1 := A0_1.1; have G0_1 := A0_1.2
  have F0_2 := A0_2.1; have G0_2 := A0_2.2
  have F0_3 := A0_3.1; have G0_3 := A0_3.2
  have F0_4 := A0_4.1; have G0_4 := A0_4.2
  have Z0 := A0_0.lt
  go_wp2_with (first | (go_at_call 39; (first | (with_reducible refine (OX.out _).mono ?_) | (with_reducible refine (OY.out _).mono ?_)); rintro e w' ⟨rfl, rfl⟩))
  refine (RU.out _).mono ?_
  rintro e w3 ⟨rfl, hbw3⟩
  clear F0_0 G0_0 F0_1 G0_1 F0_2 G0_2 F0_3 G0_3 F0_4 G0_4 Z0
  replace A0_0 := At.below (A0_0) hbw3
  replace A0_1 := At.below (A0_1) hbw3
  replace A0_2 := At.below (A0_2) hbw3
  replace A0_3 := At.below (A0_3) hbw3
  replace A0_4 := At.below (A0_4) hbw3
  replace B := below_step B B.size (hbw3)
  clear hbw3
  have F0_0 := A0_0.1; have G0_0 := A0_0.2
  have F0_1 := A0_1.1; have G0_1 := A0_1.2
  have F0_2 := A0_2.1; have G0_2 := A0_2.2
  have F0_3 := A0_3.1; have G0_3 := A0_3.2
  have F0_4 := A0_4.1; have G0_4 := A0_4.2
  have Z0 := A0_0.lt
  go_wp2_with fail
  go_ret
  exact ⟨rfl, B⟩

set_option maxHeartbeats 4000000 in
theorem tight_n7_num (a b op : Int) (x y : Nat) (hb1 : -9223372036854775808 ≤ op) (hb2 : op ≤ 9223372036854775807) (hneg : op < 0) (ho : (-(op + 1)).tmod 5 = 1) (L H U D N : Int) (rL : Rg L) (rH : Rg H) (rU : Rg U) (rD : Rg D) (rN : Rg N) (q1 : L = H ∨ (U = H ∧ D = L)) (q2 : N = L ∨ L = U)
    (hOX : ∀ w, Calls Try.prog 39 #[.int .u64 a] w fun e w' => e = .returned (.float .f64 x) ∧ w = w')
    (hOY : ∀ w, Calls Try.prog 39 #[.int .u64 b] w fun e w' => e = .returned (.float .f64 y) ∧ w = w')
    (hRD : ∀ w, Calls Try.prog 35 #[.int .i64 7, .float .f64 x, .float .f64 y, .bool false] w fun e w' => e = .returned (.float .f64 (ofKey L)) ∧ Below w.heap.size w w')
    (hRU : ∀ w, Calls Try.prog 35 #[.int .i64 7, .float .f64 x, .float .f64 y, .bool true] w fun e w' => e = .returned (.float .f64 (ofKey H)) ∧ Below w.heap.size w w')
    (hUP : ∀ w, Calls Try.prog 19 #[.float .f64 (ofKey L)] w fun e w' => e = .returned (.float .f64 (ofKey U)) ∧ w = w')
    (hDN : ∀ w, Calls Try.prog 20 #[.float .f64 (ofKey H)] w fun e w' => e = .returned (.float .f64 (ofKey D)) ∧ w = w')
    (hDU : ∀ w, Calls Try.prog 20 #[.float .f64 (ofKey U)] w fun e w' => e = .returned (.float .f64 (ofKey N)) ∧ w = w') (w : World) :
    Calls Try.prog 10 #[.int .u64 a, .int .u64 b, .int .i64 op] w fun e w' => e = .returned (.bool true) ∧ Below w.heap.size w w' := by
  have AL := Lib.hid alive_any
  have nN := nan_NANW
  have OX := Lib.hid hOX
  have OY := Lib.hid hOY
  have RD := Lib.hid hRD
  have RU := Lib.hid hRU
  have UP := Lib.hid hUP
  have DN := Lib.hid hDN
  have DU := Lib.hid hDU
  clear hOX hOY hRD hRU hUP hDN hDU
  go_enter Try.func10, Try.ntmps10
  go_wp2_with fail
  refine (AL.out _).mono ?_
  rintro e w1 ⟨rfl, hbw1⟩
  have B := hbw1
  clear hbw1
  go_wp2_with (first | (go_at_call 39; (first | (with_reducible refine (OX.out _).mono ?_) | (with_reducible refine (OY.out _).mono ?_)); rintro e w' ⟨rfl, rfl⟩) | (go_at_call 19; refine (UP.out _).mono ?_; rintro e w' ⟨rfl, rfl⟩) | (go_at_call 20; (first | (with_reducible refine (DN.out _).mono ?_) | (with_reducible refine (DU.out _).mono ?_)); rintro e w' ⟨rfl, rfl⟩))
  refine (RD.out _).mono ?_
  rintro e w2 ⟨rfl, hbw2⟩
  have nB : w.heap.size ≤ w1.heap.size := B.size
  have A0_0 : At (World.alloc w1 (.cells #[.int .i64 (6), .int .i64 (7), .int .i64 (8), .int .i64 (9), .int .i64 (3)] 37)) (w1.heap.size) 0 (.int .i64 (6)) := ⟨by simp [go_sem], by simp [go_sem]⟩
  replace A0_0 := At.below A0_0 hbw2
  have A0_1 : At (World.alloc w1 (.cells #[.int .i64 (6), .int .i64 (7), .int .i64 (8), .int .i64 (9), .int .i64 (3)] 37)) (w1.heap.size) 1 (.int .i64 (7)) := ⟨by simp [go_sem], by simp [go_sem]⟩
  replace A0_1 := At.below A0_1 hbw2
  have A0_2 : At (World.alloc w1 (.cells #[.int .i64 (6), .int .i64 (7), .int .i64 (8), .int .i64 (9), .int .i64 (3)] 37)) (w1.heap.size) 2 (.int .i64 (8)) := ⟨by simp [go_sem], by simp [go_sem]⟩
  replace A0_2 := At.below A0_2 hbw2
  have A0_3 : At (World.alloc w1 (.cells #[.int .i64 (6), .int .i64 (7), .int .i64 (8), .int .i64 (9), .int .i64 (3)] 37)) (w1.heap.size) 3 (.int .i64 (9)) := ⟨by simp [go_sem], by simp [go_sem]⟩
  replace A0_3 := At.below A0_3 hbw2
  have A0_4 : At (World.alloc w1 (.cells #[.int .i64 (6), .int .i64 (7), .int .i64 (8), .int .i64 (9), .int .i64 (3)] 37)) (w1.heap.size) 4 (.int .i64 (3)) := ⟨by simp [go_sem], by simp [go_sem]⟩
  replace A0_4 := At.below A0_4 hbw2
  replace B := below_step B B.size (below_alloc (hbw2))
  clear hbw2
  have F0_0 := A0_0.1; have G0_0 := A0_0.2
  have F0_1 := A0_1.1; have G0_1 := A0_1.2
  have F0_2 := A0_2.1; have G0_2 := A0_2.2
  have F0_3 := A0_3.1; have G0_3 := A0_3.2
  have F0_4 := A0_4.1; have G0_4 := A0_4.2
  have Z0 := A0_0.lt
  go_wp2_with (first | (go_at_call 39; (first | (with_reducible refine (OX.out _).mono ?_) | (with_reducible refine (OY.out _).mono ?_)); rintro e w' ⟨rfl, rfl⟩) | (go_at_call 19; refine (UP.out _).mono ?_; rintro e w' ⟨rfl, rfl⟩) | (go_at_call 20; (first | (with_reducible refine (DN.out _).mono ?_) | (with_reducible refine (DU.out _).mono ?_)); rintro e w' ⟨rfl, rfl⟩))
  refine (RU.out _).mono ?_
  rintro e w3 ⟨rfl, hbw3⟩
  clear F0_0 G0_0 F0_1 G0_1 F0_2 G0_2 F0_3 G0_3 F0_4 G0_4 Z0
  replace A0_0 := At.below (A0_0) hbw3
  replace A0_1 := At.below (A0_1) hbw3
  replace A0_2 := At.below (A0_2) hbw3
  replace A0_3 := At.below (A0_3) hbw3
  replace A0_4 := At.below (A0_4) hbw3
  replace B := below_step B B.size (hbw3)
  clear hbw3
  have F0_0 := A0_0.1; have G0_0 := A0_0.2
  have F0_1 := A0_1.1; have G0_1 := A0_1.2
  have F0_2 := A0_2.1; have G0_2 := A0_2.2
  have F0_3 := A0_3.1; have G0_3 := A0_3.2
  have F0_4 := A0_4.1; have G0_4 := A0_4.2
  have Z0 := A0_0.lt
  rcases q1 with rfl | ⟨rfl, rfl⟩ <;> rcases q2 with rfl | rfl
  all_goals (go_wp2_with (first | (go_at_call 39; (first | (with_reducible refine (OX.out _).mono ?_) | (with_reducible refine (OY.out _).mono ?_)); rintro e w' ⟨rfl, rfl⟩) | (go_at_call 19; refine (UP.out _).mono ?_; rintro e w' ⟨rfl, rfl⟩) | (go_at_call 20; (first | (with_reducible refine (DN.out _).mono ?_) | (with_reducible refine (DU.out _).mono ?_)); rintro e w' ⟨rfl, rfl⟩)))
  all_goals go_ret
  all_goals exact ⟨ret_b (by (first | rfl | (refine (decide_eq_true ?_).symm; omega) | (refine (decide_eq_false ?_).symm; omega) | (refine decide_eq_decide.2 ?_; omega) | (rw [Bool.eq_iff_iff]; simp only [Bool.and_eq_true, Bool.or_eq_true, Bool.not_eq_true, Bool.not_eq_eq_eq_not, Bool.not_true, Bool.not_false, decide_eq_true_eq, decide_eq_false_iff_not, Bool.false_eq_true, true_iff, false_iff] <;> omega))), B⟩

set_option maxHeartbeats 4000000 in
theorem tight_n8_nan (a b op : Int) (x y : Nat) (hb1 : -9223372036854775808 ≤ op) (hb2 : op ≤ 9223372036854775807) (hneg : op < 0) (ho : (-(op + 1)).tmod 5 = 2)
    (hOX : ∀ w, Calls Try.prog 39 #[.int .u64 a] w fun e w' => e = .returned (.float .f64 x) ∧ w = w')
    (hOY : ∀ w, Calls Try.prog 39 #[.int .u64 b] w fun e w' => e = .returned (.float .f64 y) ∧ w = w')
    (hRD : ∀ w, Calls Try.prog 35 #[.int .i64 8, .float .f64 x, .float .f64 y, .bool false] w fun e w' => e = .returned (.float .f64 (NANW)) ∧ Below w.heap.size w w')
    (hRU : ∀ w, Calls Try.prog 35 #[.int .i64 8, .float .f64 x, .float .f64 y, .bool true] w fun e w' => e = .returned (.float .f64 (NANW)) ∧ Below w.heap.size w w') (w : World) :
    Calls Try.prog 10 #[.int .u64 a, .int .u64 b, .int .i64 op] w fun e w' => e = .returned (.bool true) ∧ Below w.heap.size w w' := by
  have AL := Lib.hid alive_any
  have nN := nan_NANW
  have OX := Lib.hid hOX
  have OY := Lib.hid hOY
  have RD := Lib.hid hRD
  have RU := Lib.hid hRU
  clear hOX hOY hRD hRU
  go_enter Try.func10, Try.ntmps10
  go_wp2_with fail
  refine (AL.out _).mono ?_
  rintro e w1 ⟨rfl, hbw1⟩
  have B := hbw1
  clear hbw1
  go_wp2_with (first | (go_at_call 39; (first | (with_reducible refine (OX.out _).mono ?_) | (with_reducible refine (OY.out _).mono ?_)); rintro e w' ⟨rfl, rfl⟩))
  refine (RD.out _).mono ?_
  rintro e w2 ⟨rfl, hbw2⟩
  have nB : w.heap.size ≤ w1.heap.size := B.size
  have A0_0 : At (World.alloc w1 (.cells #[.int .i64 (6), .int .i64 (7), .int .i64 (8), .int .i64 (9), .int .i64 (3)] 37)) (w1.heap.size) 0 (.int .i64 (6)) := ⟨by simp [go_sem], by simp [go_sem]⟩
  replace A0_0 := At.below A0_0 hbw2
  have A0_1 : At (World.alloc w1 (.cells #[.int .i64 (6), .int .i64 (7), .int .i64 (8), .int .i64 (9), .int .i64 (3)] 37)) (w1.heap.size) 1 (.int .i64 (7)) := ⟨by simp [go_sem], by simp [go_sem]⟩
  replace A0_1 := At.below A0_1 hbw2
  have A0_2 : At (World.alloc w1 (.cells #[.int .i64 (6), .int .i64 (7), .int .i64 (8), .int .i64 (9), .int .i64 (3)] 37)) (w1.heap.size) 2 (.int .i64 (8)) := ⟨by simp [go_sem], by simp [go_sem]⟩
  replace A0_2 := At.below A0_2 hbw2
  have A0_3 : At (World.alloc w1 (.cells #[.int .i64 (6), .int .i64 (7), .int .i64 (8), .int .i64 (9), .int .i64 (3)] 37)) (w1.heap.size) 3 (.int .i64 (9)) := ⟨by simp [go_sem], by simp [go_sem]⟩
  replace A0_3 := At.below A0_3 hbw2
  have A0_4 : At (World.alloc w1 (.cells #[.int .i64 (6), .int .i64 (7), .int .i64 (8), .int .i64 (9), .int .i64 (3)] 37)) (w1.heap.size) 4 (.int .i64 (3)) := ⟨by simp [go_sem], by simp [go_sem]⟩
  replace A0_4 := At.below A0_4 hbw2
  replace B := below_step B B.size (below_alloc (hbw2))
  clear hbw2
  have F0_0 := A0_0.1; have G0_0 := A0_0.2
  have F0_1 := A0_1.1; have G0_1 := A0_1.2
  have F0_2 := A0_2.1; have G0_2 := A0_2.2
  have F0_3 := A0_3.1; have G0_3 := A0_3.2
  have F0_4 := A0_4.1; have G0_4 := A0_4.2
  have Z0 := A0_0.lt
  go_wp2_with (first | (go_at_call 39; (first | (with_reducible refine (OX.out _).mono ?_) | (with_reducible refine (OY.out _).mono ?_)); rintro e w' ⟨rfl, rfl⟩))
  refine (RU.out _).mono ?_
  rintro e w3 ⟨rfl, hbw3⟩
  clear F0_0 G0_0 F0_1 G0_1 F0_2 G0_2 F0_3 G0_3 F0_4 G0_4 Z0
  replace A0_0 := At.below (A0_0) hbw3
  replace A0_1 := At.below (A0_1) hbw3
  replace A0_2 := At.below (A0_2) hbw3
  replace A0_3 := At.below (A0_3) hbw3
  replace A0_4 := At.below (A0_4) hbw3
  replace B := below_step B B.size (hbw3)
  clear hbw3
  have F0_0 := A0_0.1; have G0_0 := A0_0.2
  have F0_1 := A0_1.1; have G0_1 := A0_1.2
  have F0_2 := A0_2.1; have G0_2 := A0_2.2
  have F0_3 := A0_3.1; have G0_3 := A0_3.2
  have F0_4 := A0_4.1; have G0_4 := A0_4.2
  have Z0 := A0_0.lt
  go_wp2_with fail
  go_ret
  exact ⟨rfl, B⟩

set_option maxHeartbeats 4000000 in
theorem tight_n8_num (a b op : Int) (x y : Nat) (hb1 : -9223372036854775808 ≤ op) (hb2 : op ≤ 9223372036854775807) (hneg : op < 0) (ho : (-(op + 1)).tmod 5 = 2) (L H U D N : Int) (rL : Rg L) (rH : Rg H) (rU : Rg U) (rD : Rg D) (rN : Rg N) (q1 : L = H ∨ (U = H ∧ D = L)) (q2 : N = L ∨ L = U)
    (hOX : ∀ w, Calls Try.prog 39 #[.int .u64 a] w fun e w' => e = .returned (.float .f64 x) ∧ w = w')
    (hOY : ∀ w, Calls Try.prog 39 #[.int .u64 b] w fun e w' => e = .returned (.float .f64 y) ∧ w = w')
    (hRD : ∀ w, Calls Try.prog 35 #[.int .i64 8, .float .f64 x, .float .f64 y, .bool false] w fun e w' => e = .returned (.float .f64 (ofKey L)) ∧ Below w.heap.size w w')
    (hRU : ∀ w, Calls Try.prog 35 #[.int .i64 8, .float .f64 x, .float .f64 y, .bool true] w fun e w' => e = .returned (.float .f64 (ofKey H)) ∧ Below w.heap.size w w')
    (hUP : ∀ w, Calls Try.prog 19 #[.float .f64 (ofKey L)] w fun e w' => e = .returned (.float .f64 (ofKey U)) ∧ w = w')
    (hDN : ∀ w, Calls Try.prog 20 #[.float .f64 (ofKey H)] w fun e w' => e = .returned (.float .f64 (ofKey D)) ∧ w = w')
    (hDU : ∀ w, Calls Try.prog 20 #[.float .f64 (ofKey U)] w fun e w' => e = .returned (.float .f64 (ofKey N)) ∧ w = w') (w : World) :
    Calls Try.prog 10 #[.int .u64 a, .int .u64 b, .int .i64 op] w fun e w' => e = .returned (.bool true) ∧ Below w.heap.size w w' := by
  have AL := Lib.hid alive_any
  have nN := nan_NANW
  have OX := Lib.hid hOX
  have OY := Lib.hid hOY
  have RD := Lib.hid hRD
  have RU := Lib.hid hRU
  have UP := Lib.hid hUP
  have DN := Lib.hid hDN
  have DU := Lib.hid hDU
  clear hOX hOY hRD hRU hUP hDN hDU
  go_enter Try.func10, Try.ntmps10
  go_wp2_with fail
  refine (AL.out _).mono ?_
  rintro e w1 ⟨rfl, hbw1⟩
  have B := hbw1
  clear hbw1
  go_wp2_with (first | (go_at_call 39; (first | (with_reducible refine (OX.out _).mono ?_) | (with_reducible refine (OY.out _).mono ?_)); rintro e w' ⟨rfl, rfl⟩) | (go_at_call 19; refine (UP.out _).mono ?_; rintro e w' ⟨rfl, rfl⟩) | (go_at_call 20; (first | (with_reducible refine (DN.out _).mono ?_) | (with_reducible refine (DU.out _).mono ?_)); rintro e w' ⟨rfl, rfl⟩))
  refine (RD.out _).mono ?_
  rintro e w2 ⟨rfl, hbw2⟩
  have nB : w.heap.size ≤ w1.heap.size := B.size
  have A0_0 : At (World.alloc w1 (.cells #[.int .i64 (6), .int .i64 (7), .int .i64 (8), .int .i64 (9), .int .i64 (3)] 37)) (w1.heap.size) 0 (.int .i64 (6)) := ⟨by simp [go_sem], by simp [go_sem]⟩
  replace A0_0 := At.below A0_0 hbw2
  have A0_1 : At (World.alloc w1 (.cells #[.int .i64 (6), .int .i64 (7), .int .i64 (8), .int .i64 (9), .int .i64 (3)] 37)) (w1.heap.size) 1 (.int .i64 (7)) := ⟨by simp [go_sem], by simp [go_sem]⟩
  replace A0_1 := At.below A0_1 hbw2
  have A0_2 : At (World.alloc w1 (.cells #[.int .i64 (6), .int .i64 (7), .int .i64 (8), .int .i64 (9), .int .i64 (3)] 37)) (w1.heap.size) 2 (.int .i64 (8)) := ⟨by simp [go_sem], by simp [go_sem]⟩
  replace A0_2 := At.below A0_2 hbw2
  have A0_3 : At (World.alloc w1 (.cells #[.int .i64 (6), .int .i64 (7), .int .i64 (8), .int .i64 (9), .int .i64 (3)] 37)) (w1.heap.size) 3 (.int .i64 (9)) := ⟨by simp [go_sem], by simp [go_sem]⟩
  replace A0_3 := At.below A0_3 hbw2
  have A0_4 : At (World.alloc w1 (.cells #[.int .i64 (6), .int .i64 (7), .int .i64 (8), .int .i64 (9), .int .i64 (3)] 37)) (w1.heap.size) 4 (.int .i64 (3)) := ⟨by simp [go_sem], by simp [go_sem]⟩
  replace A0_4 := At.below A0_4 hbw2
  replace B := below_step B B.size (below_alloc (hbw2))
  clear hbw2
  have F0_0 := A0_0.1; have G0_0 := A0_0.2
  have F0_1 := A0_1.1; have G0_1 := A0_1.2
  have F0_2 := A0_2.1; have G0_2 := A0_2.2
  have F0_3 := A0_3.1; have G0_3 := A0_3.2
  have F0_4 := A0_4.1; have G0_4 := A0_4.2
  have Z0 := A0_0.lt
  go_wp2_with (first | (go_at_call 39; (first | (with_reducible refine (OX.out _).mono ?_) | (with_reducible refine (OY.out _).mono ?_)); rintro e w' ⟨rfl, rfl⟩) | (go_at_call 19; refine (UP.out _).mono ?_; rintro e w' ⟨rfl, rfl⟩) | (go_at_call 20; (first | (with_reducible refine (DN.out _).mono ?_) | (with_reducible refine (DU.out _).mono ?_)); rintro e w' ⟨rfl, rfl⟩))
  refine (RU.out _).mono ?_
  rintro e w3 ⟨rfl, hbw3⟩
  clear F0_0 G0_0 F0_1 G0_1 F0_2 G0_2 F0_3 G0_3 F0_4 G0_4 Z0
  replace A0_0 := At.below (A0_0) hbw3
  replace A0_1 := At.below (A0_1) hbw3
  replace A0_2 := At.below (A0_2) hbw3
  replace A0_3 := At.below (A0_3) hbw3
  replace A0_4 := At.below (A0_4) hbw3
  replace B := below_step B B.size (hbw3)
  clear hbw3
  have F0_0 := A0_0.1; have G0_0 := A0_0.2
  have F0_1 := A0_1.1; have G0_1 := A0_1.2
  have F0_2 := A0_2.1; have G0_2 := A0_2.2
  have F0_3 := A0_3.1; have G0_3 := A0_3.2
  have F0_4 := A0_4.1; have G0_4 := A0_4.2
  have Z0 := A0_0.lt
  rcases q1 with rfl | ⟨rfl, rfl⟩ <;> rcases q2 with rfl | rfl
  all_goals (go_wp2_with (first | (go_at_call 39; (first | (with_reducible refine (OX.out _).mono ?_) | (with_reducible refine (OY.out _).mono ?_)); rintro e w' ⟨rfl, rfl⟩) | (go_at_call 19; refine (UP.out _).mono ?_; rintro e w' ⟨rfl, rfl⟩) | (go_at_call 20; (first | (with_reducible refine (DN.out _).mono ?_) | (with_reducible refine (DU.out _).mono ?_)); rintro e w' ⟨rfl, rfl⟩)))
  all_goals go_ret
  all_goals exact ⟨ret_b (by (first | rfl | (refine (decide_eq_true ?_).symm; omega) | (refine (decide_eq_false ?_).symm; omega) | (refine decide_eq_decide.2 ?_; omega) | (rw [Bool.eq_iff_iff]; simp only [Bool.and_eq_true, Bool.or_eq_true, Bool.not_eq_true, Bool.not_eq_eq_eq_not, Bool.not_true, Bool.not_false, decide_eq_true_eq, decide_eq_false_iff_not, Bool.false_eq_true, true_iff, false_iff] <;> omega))), B⟩

set_option maxHeartbeats 4000000 in
theorem tight_n9_nan (a b op : Int) (x y : Nat) (hb1 : -9223372036854775808 ≤ op) (hb2 : op ≤ 9223372036854775807) (hneg : op < 0) (ho : (-(op + 1)).tmod 5 = 3)
    (hOX : ∀ w, Calls Try.prog 39 #[.int .u64 a] w fun e w' => e = .returned (.float .f64 x) ∧ w = w')
    (hOY : ∀ w, Calls Try.prog 39 #[.int .u64 b] w fun e w' => e = .returned (.float .f64 y) ∧ w = w')
    (hRD : ∀ w, Calls Try.prog 35 #[.int .i64 9, .float .f64 x, .float .f64 y, .bool false] w fun e w' => e = .returned (.float .f64 (NANW)) ∧ Below w.heap.size w w')
    (hRU : ∀ w, Calls Try.prog 35 #[.int .i64 9, .float .f64 x, .float .f64 y, .bool true] w fun e w' => e = .returned (.float .f64 (NANW)) ∧ Below w.heap.size w w') (w : World) :
    Calls Try.prog 10 #[.int .u64 a, .int .u64 b, .int .i64 op] w fun e w' => e = .returned (.bool true) ∧ Below w.heap.size w w' := by
  have AL := Lib.hid alive_any
  have nN := nan_NANW
  have OX := Lib.hid hOX
  have OY := Lib.hid hOY
  have RD := Lib.hid hRD
  have RU := Lib.hid hRU
  clear hOX hOY hRD hRU
  go_enter Try.func10, Try.ntmps10
  go_wp2_with fail
  refine (AL.out _).mono ?_
  rintro e w1 ⟨rfl, hbw1⟩
  have B := hbw1
  clear hbw1
  go_wp2_with (first | (go_at_call 39; (first | (with_reducible refine (OX.out _).mono ?_) | (with_reducible refine (OY.out _).mono ?_)); rintro e w' ⟨rfl, rfl⟩))
  refine (RD.out _).mono ?_
  rintro e w2 ⟨rfl, hbw2⟩
  have nB : w.heap.size ≤ w1.heap.size := B.size
  have A0_0 : At (World.alloc w1 (.cells #[.int .i64 (6), .int .i64 (7), .int .i64 (8), .int .i64 (9), .int .i64 (3)] 37)) (w1.heap.size) 0 (.int .i64 (6)) := ⟨by simp [go_sem], by simp [go_sem]⟩
  replace A0_0 := At.below A0_0 hbw2
  have A0_1 : At (World.alloc w1 (.cells #[.int .i64 (6), .int .i64 (7), .int .i64 (8), .int .i64 (9), .int .i64 (3)] 37)) (w1.heap.size) 1 (.int .i64 (7)) := ⟨by simp [go_sem], by simp [go_sem]⟩
  replace A0_1 := At.below A0_1 hbw2
  have A0_2 : At (World.alloc w1 (.cells #[.int .i64 (6), .int .i64 (7), .int .i64 (8), .int .i64 (9), .int .i64 (3)] 37)) (w1.heap.size) 2 (.int .i64 (8)) := ⟨by simp [go_sem], by simp [go_sem]⟩
  replace A0_2 := At.below A0_2 hbw2
  have A0_3 : At (World.alloc w1 (.cells #[.int .i64 (6), .int .i64 (7), .int .i64 (8), .int .i64 (9), .int .i64 (3)] 37)) (w1.heap.size) 3 (.int .i64 (9)) := ⟨by simp [go_sem], by simp [go_sem]⟩
  replace A0_3 := At.below A0_3 hbw2
  have A0_4 : At (World.alloc w1 (.cells #[.int .i64 (6), .int .i64 (7), .int .i64 (8), .int .i64 (9), .int .i64 (3)] 37)) (w1.heap.size) 4 (.int .i64 (3)) := ⟨by simp [go_sem], by simp [go_sem]⟩
  replace A0_4 := At.below A0_4 hbw2
  replace B := below_step B B.size (below_alloc (hbw2))
  clear hbw2
  have F0_0 := A0_0.1; have G0_0 := A0_0.2
  have F0_1 := A0_1.1; have G0_1 := A0_1.2
  have F0_2 := A0_2.1; have G0_2 := A0_2.2
  have F0_3 := A0_3.1; have G0_3 := A0_3.2
  have F0_4 := A0_4.1; have G0_4 := A0_4.2
  have Z0 := A0_0.lt
  go_wp2_with (first | (go_at_call 39; (first | (with_reducible refine (OX.out _).mono ?_) | (with_reducible refine (OY.out _).mono ?_)); rintro e w' ⟨rfl, rfl⟩))
  refine (RU.out _).mono ?_
  rintro e w3 ⟨rfl, hbw3⟩
  clear F0_0 G0_0 F0_1 G0_1 F0_2 G0_2 F0_3 G0_3 F0_4 G0_4 Z0
  replace A0_0 := At.below (A0_0) hbw3
  replace A0_1 := At.below (A0_1) hbw3
  replace A0_2 := At.below (A0_2) hbw3
  replace A0_3 := At.below (A0_3) hbw3
  replace A0_4 := At.below (A0_4) hbw3
  replace B := below_step B B.size (hbw3)
  clear hbw3
  have F0_0 := A0_0.1; have G0_0 := A0_0.2
  have F0_1 := A0_1.1; have G0_1 := A0_1.2
  have F0_2 := A0_2.1; have G0_2 := A0_2.2
  have F0_3 := A0_3.1; have G0_3 := A0_3.2
  have F0_4 := A0_4.1; have G0_4 := A0_4.2
  have Z0 := A0_0.lt
  go_wp2_with fail
  go_ret
  exact ⟨rfl, B⟩

set_option maxHeartbeats 4000000 in
theorem tight_n9_num (a b op : Int) (x y : Nat) (hb1 : -9223372036854775808 ≤ op) (hb2 : op ≤ 9223372036854775807) (hneg : op < 0) (ho : (-(op + 1)).tmod 5 = 3) (L H U D N : Int) (rL : Rg L) (rH : Rg H) (rU : Rg U) (rD : Rg D) (rN : Rg N) (q1 : L = H ∨ (U = H ∧ D = L)) (q2 : N = L ∨ L = U)
    (hOX : ∀ w, Calls Try.prog 39 #[.int .u64 a] w fun e w' => e = .returned (.float .f64 x) ∧ w = w')
    (hOY : ∀ w, Calls Try.prog 39 #[.int .u64 b] w fun e w' => e = .returned (.float .f64 y) ∧ w = w')
    (hRD : ∀ w, Calls Try.prog 35 #[.int .i64 9, .float .f64 x, .float .f64 y, .bool false] w fun e w' => e = .returned (.float .f64 (ofKey L)) ∧ Below w.heap.size w w')
    (hRU : ∀ w, Calls Try.prog 35 #[.int .i64 9, .float .f64 x, .float .f64 y, .bool true] w fun e w' => e = .returned (.float .f64 (ofKey H)) ∧ Below w.heap.size w w')
    (hUP : ∀ w, Calls Try.prog 19 #[.float .f64 (ofKey L)] w fun e w' => e = .returned (.float .f64 (ofKey U)) ∧ w = w')
    (hDN : ∀ w, Calls Try.prog 20 #[.float .f64 (ofKey H)] w fun e w' => e = .returned (.float .f64 (ofKey D)) ∧ w = w')
    (hDU : ∀ w, Calls Try.prog 20 #[.float .f64 (ofKey U)] w fun e w' => e = .returned (.float .f64 (ofKey N)) ∧ w = w') (w : World) :
    Calls Try.prog 10 #[.int .u64 a, .int .u64 b, .int .i64 op] w fun e w' => e = .returned (.bool true) ∧ Below w.heap.size w w' := by
  have AL := Lib.hid alive_any
  have nN := nan_NANW
  have OX := Lib.hid hOX
  have OY := Lib.hid hOY
  have RD := Lib.hid hRD
  have RU := Lib.hid hRU
  have UP := Lib.hid hUP
  have DN := Lib.hid hDN
  have DU := Lib.hid hDU
  clear hOX hOY hRD hRU hUP hDN hDU
  go_enter Try.func10, Try.ntmps10
  go_wp2_with fail
  refine (AL.out _).mono ?_
  rintro e w1 ⟨rfl, hbw1⟩
  have B := hbw1
  clear hbw1
  go_wp2_with (first | (go_at_call 39; (first | (with_reducible refine (OX.out _).mono ?_) | (with_reducible refine (OY.out _).mono ?_)); rintro e w' ⟨rfl, rfl⟩) | (go_at_call 19; refine (UP.out _).mono ?_; rintro e w' ⟨rfl, rfl⟩) | (go_at_call 20; (first | (with_reducible refine (DN.out _).mono ?_) | (with_reducible refine (DU.out _).mono ?_)); rintro e w' ⟨rfl, rfl⟩))
  refine (RD.out _).mono ?_
  rintro e w2 ⟨rfl, hbw2⟩
  have nB : w.heap.size ≤ w1.heap.size := B.size
  have A0_0 : At (World.alloc w1 (.cells #[.int .i64 (6), .int .i64 (7), .int .i64 (8), .int .i64 (9), .int .i64 (3)] 37)) (w1.heap.size) 0 (.int .i64 (6)) := ⟨by simp [go_sem], by simp [go_sem]⟩
  replace A0_0 := At.below A0_0 hbw2
  have A0_1 : At (World.alloc w1 (.cells #[.int .i64 (6), .int .i64 (7), .int .i64 (8), .int .i64 (9), .int .i64 (3)] 37)) (w1.heap.size) 1 (.int .i64 (7)) := ⟨by simp [go_sem], by simp [go_sem]⟩
  replace A0_1 := At.below A0_1 hbw2
  have A0_2 : At (World.alloc w1 (.cells #[.int .i64 (6), .int .i64 (7), .int .i64 (8), .int .i64 (9), .int .i64 (3)] 37)) (w1.heap.size) 2 (.int .i64 (8)) := ⟨by simp [go_sem], by simp [go_sem]⟩
  replace A0_2 := At.below A0_2 hbw2
  have A0_3 : At (World.alloc w1 (.cells #[.int .i64 (6), .int .i64 (7), .int .i64 (8), .int .i64 (9), .int .i64 (3)] 37)) (w1.heap.size) 3 (.int .i64 (9)) := ⟨by simp [go_sem], by simp [go_sem]⟩
  replace A0_3 := At.below A0_3 hbw2
  have A0_4 : At (World.alloc w1 (.cells #[.int .i64 (6), .int .i64 (7), .int .i64 (8), .int .i64 (9), .int .i64 (3)] 37)) (w1.heap.size) 4 (.int .i64 (3)) := ⟨by simp [go_sem], by simp [go_sem]⟩
  replace A0_4 := At.below A0_4 hbw2
  replace B := below_step B B.size (below_alloc (hbw2))
  clear hbw2
  have F0_0 := A0_0.1; have G0_0 := A0_0.2
  have F0_1 := A0_1.1; have G0_1 := A0_1.2
  have F0_2 := A0_2.1; have G0_2 := A0_2.2
  have F0_3 := A0_3.1; have G0_3 := A0_3.2
  have F0_4 := A0_4.1; have G0_4 := A0_4.2
  have Z0 := A0_0.lt
  go_wp2_with (first | (go_at_call 39; (first | (with_reducible refine (OX.out _).mono ?_) | (with_reducible refine (OY.out _).mono ?_)); rintro e w' ⟨rfl, rfl⟩) | (go_at_call 19; refine (UP.out _).mono ?_; rintro e w' ⟨rfl, rfl⟩) | (go_at_call 20; (first | (with_reducible refine (DN.out _).mono ?_) | (with_reducible refine (DU.out _).mono ?_)); rintro e w' ⟨rfl, rfl⟩))
  refine (RU.out _).mono ?_
  rintro e w3 ⟨rfl, hbw3⟩
  clear F0_0 G0_0 F0_1 G0_1 F0_2 G0_2 F0_3 G0_3 F0_4 G0_4 Z0
  replace A0_0 := At.below (A0_0) hbw3
  replace A0_1 := At.below (A0_1) hbw3
  replace A0_2 := At.below (A0_2) hbw3
  replace A0_3 := At.below (A0_3) hbw3
  replace A0_4 := At.below (A0_4) hbw3
  replace B := below_step B B.size (hbw3)
  clear hbw3
  have F0_0 := A0_0.1; have G0_0 := A0_0.2
  have F0_1 := A0_1.1; have G0_1 := A0_1.2
  have F0_2 := A0_2.1; have G0_2 := A0_2.2
  have F0_3 := A0_3.1; have G0_3 := A0_3.2
  have F0_4 := A0_4.1; have G0_4 := A0_4.2
  have Z0 := A0_0.lt
  rcases q1 with rfl | ⟨rfl, rfl⟩ <;> rcases q2 with rfl | rfl
  all_goals (go_wp2_with (first | (go_at_call 39; (first | (with_reducible refine (OX.out _).mono ?_) | (with_reducible refine (OY.out _).mono ?_)); rintro e w' ⟨rfl, rfl⟩) | (go_at_call 19; refine (UP.out _).mono ?_; rintro e w' ⟨rfl, rfl⟩) | (go_at_call 20; (first | (with_reducible refine (DN.out _).mono ?_) | (with_reducible refine (DU.out _).mono ?_)); rintro e w' ⟨rfl, rfl⟩)))
  all_goals go_ret
  all_goals exact ⟨ret_b (by (first | rfl | (refine (decide_eq_true ?_).symm; omega) | (refine (decide_eq_false ?_).symm; omega) | (refine decide_eq_decide.2 ?_; omega) | (rw [Bool.eq_iff_iff]; simp only [Bool.and_eq_true, Bool.or_eq_true, Bool.not_eq_true, Bool.not_eq_eq_eq_not, Bool.not_true, Bool.not_false, decide_eq_true_eq, decide_eq_false_iff_not, Bool.false_eq_true, true_iff, false_iff] <;> omega))), B⟩

set_option maxHeartbeats 4000000 in
theorem tight_n3_nan (a b op : Int) (x y : Nat) (hb1 : -9223372036854775808 ≤ op) (hb2 : op ≤ 9223372036854775807) (hneg : op < 0) (ho : (-(op + 1)).tmod 5 = 4)
    (hOX : ∀ w, Calls Try.prog 39 #[.int .u64 a] w fun e w' => e = .returned (.float .f64 x) ∧ w = w')
    (hOY : ∀ w, Calls Try.prog 39 #[.int .u64 b] w fun e w' => e = .returned (.float .f64 y) ∧ w = w')
    (hRD : ∀ w, Calls Try.prog 35 #[.int .i64 3, .float .f64 x, .float .f64 y, .bool false] w fun e w' => e = .returned (.float .f64 (NANW)) ∧ Below w.heap.size w w')
    (hRU : ∀ w, Calls Try.prog 35 #[.int .i64 3, .float .f64 x, .float .f64 y, .bool true] w fun e w' => e = .returned (.float .f64 (NANW)) ∧ Below w.heap.size w w') (w : World) :
    Calls Try.prog 10 #[.int .u64 a, .int .u64 b, .int .i64 op] w fun e w' => e = .returned (.bool true) ∧ Below w.heap.size w w' := by
  have AL := Lib.hid alive_any
  have nN := nan_NANW
  have OX := Lib.hid hOX
  have OY := Lib.hid hOY
  have RD := Lib.hid hRD
  have RU := Lib.hid hRU
  clear hOX hOY hRD hRU
  go_enter Try.func10, Try.ntmps10
  go_wp2_with fail
  refine (AL.out _).mono ?_
  rintro e w1 ⟨rfl, hbw1⟩
  have B := hbw1
  clear hbw1
  go_wp2_with (first | (go_at_call 39; (first | (with_reducible refine (OX.out _).mono ?_) | (with_reducible refine (OY.out _).mono ?_)); rintro e w' ⟨rfl, rfl⟩))
  refine (RD.out _).mono ?_
  rintro e w2 ⟨rfl, hbw2⟩
  have nB : w.heap.size ≤ w1.heap.size := B.size
  have A0_0 : At (World.alloc w1 (.cells #[.int .i64 (6), .int .i64 (7), .int .i64 (8), .int .i64 (9), .int .i64 (3)] 37)) (w1.heap.size) 0 (.int .i64 (6)) := ⟨by simp [go_sem], by simp [go_sem]⟩
  replace A0_0 := At.below A0_0 hbw2
  have A0_1 : At (World.alloc w1 (.cells #[.int .i64 (6), .int .i64 (7), .int .i64 (8), .int .i64 (9), .int .i64 (3)] 37)) (w1.heap.size) 1 (.int .i64 (7)) := ⟨by simp [go_sem], by simp [go_sem]⟩
  replace A0_1 := At.below A0_1 hbw2
  have A0_2 : At (World.alloc w1 (.cells #[.int .i64 (6), .int .i64 (7), .int .i64 (8), .int .i64 (9), .int .i64 (3)] 37)) (w1.heap.size) 2 (.int .i64 (8)) := ⟨by simp [go_sem], by simp [go_sem]⟩
  replace A0_2 := At.below A0_2 hbw2
  have A0_3 : At (World.alloc w1 (.cells #[.int .i64 (6), .int .i64 (7), .int .i64 (8), .int .i64 (9), .int .i64 (3)] 37)) (w1.heap.size) 3 (.int .i64 (9)) := ⟨by simp [go_sem], by simp [go_sem]⟩
  replace A0_3 := At.below A0_3 hbw2
  have A0_4 : At (World.alloc w1 (.cells #[.int .i64 (6), .int .i64 (7), .int .i64 (8), .int .i64 (9), .int .i64 (3)] 37)) (w1.heap.size) 4 (.int .i64 (3)) := ⟨by simp [go_sem], by simp [go_sem]⟩
  replace A0_4 := At.below A0_4 hbw2
  replace B := below_step B B.size (below_alloc (hbw2))
  clear hbw2
  have F0_0 := A0_0.1; have G0_0 := A0_0.2
  have F0_1 := A0_1.1; have G0_1 := A0_1.2
  have F0_2 := A0_2.1; have G0_2 := A0_2.2
  have F0_3 := A0_3.1; have G0_3 := A0_3.2
  have F0_4 := A0_4.1; have G0_4 := A0_4.2
  have Z0 := A0_0.lt
  go_wp2_with (first | (go_at_call 39; (first | (with_reducible refine (OX.out _).mono ?_) | (with_reducible refine (OY.out _).mono ?_)); rintro e w' ⟨rfl, rfl⟩))
  refine (RU.out _).mono ?_
  rintro e w3 ⟨rfl, hbw3⟩
  clear F0_0 G0_0 F0_1 G0_1 F0_2 G0_2 F0_3 G0_3 F0_4 G0_4 Z0
  replace A0_0 := At.below (A0_0) hbw3
  replace A0_1 := At.below (A0_1) hbw3
  replace A0_2 := At.below (A0_2) hbw3
  replace A0_3 := At.below (A0_3) hbw3
  replace A0_4 := At.below (A0_4) hbw3
  replace B := below_step B B.size (hbw3)
  clear hbw3
  have F0_0 := A0_0.1; have G0_0 := A0_0.2
  have F0_1 := A0_1.1; have G0_1 := A0_1.2
  have F0_2 := A0_2.1; have G0_2 := A0_2.2
  have F0_3 := A0_3.1; have G0_3 := A0_3.2
  have F0_4 := A0_4.1; have G0_4 := A0_4.2
  have Z0 := A0_0.lt
  go_wp2_with fail
  go_ret
  exact ⟨rfl, B⟩

set_option maxHeartbeats 4000000 in
theorem tight_n3_num (a b op : Int) (x y : Nat) (hb1 : -9223372036854775808 ≤ op) (hb2 : op ≤ 9223372036854775807) (hneg : op < 0) (ho : (-(op + 1)).tmod 5 = 4) (L H U D N : Int) (rL : Rg L) (rH : Rg H) (rU : Rg U) (rD : Rg D) (rN : Rg N) (q1 : L = H ∨ (U = H ∧ D = L)) (q2 : N = L ∨ L = U)
    (hOX : ∀ w, Calls Try.prog 39 #[.int .u64 a] w fun e w' => e = .returned (.float .f64 x) ∧ w = w')
    (hOY : ∀ w, Calls Try.prog 39 #[.int .u64 b] w fun e w' => e = .returned (.float .f64 y) ∧ w = w')
    (hRD : ∀ w, Calls Try.prog 35 #[.int .i64 3, .float .f64 x, .float .f64 y, .bool false] w fun e w' => e = .returned (.float .f64 (ofKey L)) ∧ Below w.heap.size w w')
    (hRU : ∀ w, Calls Try.prog 35 #[.int .i64 3, .float .f64 x, .float .f64 y, .bool true] w fun e w' => e = .returned (.float .f64 (ofKey H)) ∧ Below w.heap.size w w')
    (hUP : ∀ w, Calls Try.prog 19 #[.float .f64 (ofKey L)] w fun e w' => e = .returned (.float .f64 (ofKey U)) ∧ w = w')
    (hDN : ∀ w, Calls Try.prog 20 #[.float .f64 (ofKey H)] w fun e w' => e = .returned (.float .f64 (ofKey D)) ∧ w = w')
    (hDU : ∀ w, Calls Try.prog 20 #[.float .f64 (ofKey U)] w fun e w' => e = .returned (.float .f64 (ofKey N)) ∧ w = w') (w : World) :
    Calls Try.prog 10 #[.int .u64 a, .int .u64 b, .int .i64 op] w fun e w' => e = .returned (.bool true) ∧ Below w.heap.size w w' := by
  have AL := Lib.hid alive_any
  have nN := nan_NANW
  have OX := Lib.hid hOX
  have OY := Lib.hid hOY
  have RD := Lib.hid hRD
  have RU := Lib.hid hRU
  have UP := Lib.hid hUP
  have DN := Lib.hid hDN
  have DU := Lib.hid hDU
  clear hOX hOY hRD hRU hUP hDN hDU
  go_enter Try.func10, Try.ntmps10
  go_wp2_with fail
  refine (AL.out _).mono ?_
  rintro e w1 ⟨rfl, hbw1⟩
  have B := hbw1
  clear hbw1
  go_wp2_with (first | (go_at_call 39; (first | (with_reducible refine (OX.out _).mono ?_) | (with_reducible refine (OY.out _).mono ?_)); rintro e w' ⟨rfl, rfl⟩) | (go_at_call 19; refine (UP.out _).mono ?_; rintro e w' ⟨rfl, rfl⟩) | (go_at_call 20; (first | (with_reducible refine (DN.out _).mono ?_) | (with_reducible refine (DU.out _).mono ?_)); rintro e w' ⟨rfl, rfl⟩))
  refine (RD.out _).mono ?_
  rintro e w2 ⟨rfl, hbw2⟩
  have nB : w.heap.size ≤ w1.heap.size := B.size
  have A0_0 : At (World.alloc w1 (.cells #[.int .i64 (6), .int .i64 (7), .int .i64 (8), .int .i64 (9), .int .i64 (3)] 37)) (w1.heap.size) 0 (.int .i64 (6)) := ⟨by simp [go_sem], by simp [go_sem]⟩
  replace A0_0 := At.below A0_0 hbw2
  have A0_1 : At (World.alloc w1 (.cells #[.int .i64 (6), .int .i64 (7), .int .i64 (8), .int .i64 (9), .int .i64 (3)] 37)) (w1.heap.size) 1 (.int .i64 (7)) := ⟨by simp [go_sem], by simp [go_sem]⟩
  replace A0_1 := At.below A0_1 hbw2
  have A0_2 : At (World.alloc w1 (.cells #[.int .i64 (6), .int .i64 (7), .int .i64 (8), .int .i64 (9), .int .i64 (3)] 37)) (w1.heap.size) 2 (.int .i64 (8)) := ⟨by simp [go_sem], by simp [go_sem]⟩
  replace A0_2 := At.below A0_2 hbw2
  have A0_3 : At (World.alloc w1 (.cells #[.int .i64 (6), .int .i64 (7), .int .i64 (8), .int .i64 (9), .int .i64 (3)] 37)) (w1.heap.size) 3 (.int .i64 (9)) := ⟨by simp [go_sem], by simp [go_sem]⟩
  replace A0_3 := At.below A0_3 hbw2
  have A0_4 : At (World.alloc w1 (.cells #[.int .i64 (6), .int .i64 (7), .int .i64 (8), .int .i64 (9), .int .i64 (3)] 37)) (w1.heap.size) 4 (.int .i64 (3)) := ⟨by simp [go_sem], by simp [go_sem]⟩
  replace A0_4 := At.below A0_4 hbw2
  replace B := below_step B B.size (below_alloc (hbw2))
  clear hbw2
  have F0_0 := A0_0.1; have G0_0 := A0_0.2
  have F0_1 := A0_1.1; have G0_1 := A0_1.2
  have F0_2 := A0_2.1; have G0_2 := A0_2.2
  have F0_3 := A0_3.1; have G0_3 := A0_3.2
  have F0_4 := A0_4.1; have G0_4 := A0_4.2
  have Z0 := A0_0.lt
  go_wp2_with (first | (go_at_call 39; (first | (with_reducible refine (OX.out _).mono ?_) | (with_reducible refine (OY.out _).mono ?_)); rintro e w' ⟨rfl, rfl⟩) | (go_at_call 19; refine (UP.out _).mono ?_; rintro e w' ⟨rfl, rfl⟩) | (go_at_call 20; (first | (with_reducible refine (DN.out _).mono ?_) | (with_reducible refine (DU.out _).mono ?_)); rintro e w' ⟨rfl, rfl⟩))
  refine (RU.out _).mono ?_
  rintro e w3 ⟨rfl, hbw3⟩
  clear F0_0 G0_0 F0_1 G0_1 F0_2 G0_2 F0_3 G0_3 F0_4 G0_4 Z0
  replace A0_0 := At.below (A0_0) hbw3
  replace A0_1 := At.below (A0_1) hbw3
  replace A0_2 := At.below (A0_2) hbw3
  replace A0_3 := At.below (A0_3) hbw3
  replace A0_4 := At.below (A0_4) hbw3
  replace B := below_step B B.size (hbw3)
  clear hbw3
  have F0_0 := A0_0.1; have G0_0 := A0_0.2
  have F0_1 := A0_1.1; have G0_1 := A0_1.2
  have F0_2 := A0_2.1; have G0_2 := A0_2.2
  have F0_3 := A0_3.1; have G0_3 := A0_3.2
  have F0_4 := A0_4.1; have G0_4 := A0_4.2
  have Z0 := A0_0.lt
  rcases q1 with rfl | ⟨rfl, rfl⟩ <;> rcases q2 with rfl | rfl
  all_goals (go_wp2_with (first | (go_at_call 39; (first | (with_reducible refine (OX.out _).mono ?_) | (with_reducible refine (OY.out _).mono ?_)); rintro e w' ⟨rfl, rfl⟩) | (go_at_call 19; refine (UP.out _).mono ?_; rintro e w' ⟨rfl, rfl⟩) | (go_at_call 20; (first | (with_reducible refine (DN.out _).mono ?_) | (with_reducible refine (DU.out _).mono ?_)); rintro e w' ⟨rfl, rfl⟩)))
  all_goals go_ret
  all_goals exact ⟨ret_b (by (first | rfl | (refine (decide_eq_true ?_).symm; omega) | (refine (decide_eq_false ?_).symm; omega) | (refine decide_eq_decide.2 ?_; omega) | (rw [Bool.eq_iff_iff]; simp only [Bool.and_eq_true, Bool.or_eq_true, Bool.not_eq_true, Bool.not_eq_eq_eq_not, Bool.not_true, Bool.not_false, decide_eq_true_eq, decide_eq_false_iff_not, Bool.false_eq_true, true_iff, false_iff] <;> omega))), B⟩

set_option maxHeartbeats 4000000 in
theorem tight_p6_nan (a b op : Int) (x y : Nat) (hb1 : -9223372036854775808 ≤ op) (hb2 : op ≤ 9223372036854775807) (hneg : ¬ op < 0) (ho : op.tmod 5 = 0)
    (hOX : ∀ w, Calls Try.prog 39 #[.int .u64 a] w fun e w' => e = .returned (.float .f64 x) ∧ w = w')
    (hOY : ∀ w, Calls Try.prog 39 #[.int .u64 b] w fun e w' => e = .returned (.float .f64 y) ∧ w = w')
    (hRD : ∀ w, Calls Try.prog 35 #[.int .i64 6, .float .f64 x, .float .f64 y, .bool false] w fun e w' => e = .returned (.float .f64 (NANW)) ∧ Below w.heap.size w w')
    (hRU : ∀ w, Calls Try.prog 35 #[.int .i64 6, .float .f64 x, .float .f64 y, .bool true] w fun e w' => e = .returned (.float .f64 (NANW)) ∧ Below w.heap.size w w') (w : World) :
    Calls Try.prog 10 #[.int .u64 a, .int .u64 b, .int .i64 op] w fun e w' => e = .returned (.bool true) ∧ Below w.heap.size w w' := by
  have AL := Lib.hid alive_any
  have nN := nan_NANW
  have OX := Lib.hid hOX
  have OY := Lib.hid hOY
  have RD := Lib.hid hRD
  have RU := Lib.hid hRU
  clear hOX hOY hRD hRU
  go_enter Try.func10, Try.ntmps10
  go_wp2_with fail
  refine (AL.out _).mono ?_
  rintro e w1 ⟨rfl, hbw1⟩
  have B := hbw1
  clear hbw1
  go_wp2_with (first | (go_at_call 39; (first | (with_reducible refine (OX.out _).mono ?_) | (with_reducible refine (OY.out _).mono ?_)); rintro e w' ⟨rfl, rfl⟩))
  refine (RD.out _).mono ?_
  rintro e w2 ⟨rfl, hbw2⟩
  have nB : w.heap.size ≤ w1.heap.size := B.size
  have A0_0 : At (World.alloc w1 (.cells #[.int .i64 (6), .int .i64 (7), .int .i64 (8), .int .i64 (9), .int .i64 (3)] 37)) (w1.heap.size) 0 (.int .i64 (6)) := ⟨by simp [go_sem], by simp [go_sem]⟩
  replace A0_0 := At.below A0_0 hbw2
  have A0_1 : At (World.alloc w1 (.cells #[.int .i64 (6), .int .i64 (7), .int .i64 (8), .int .i64 (9), .int .i64 (3)] 37)) (w1.heap.size) 1 (.int .i64 (7)) := ⟨by simp [go_sem], by simp [go_sem]⟩
  replace A0_1 := At.below A0_1 hbw2
  have A0_2 : At (World.alloc w1 (.cells #[.int .i64 (6), .int .i64 (7), .int .i64 (8), .int .i64 (9), .int .i64 (3)] 37)) (w1.heap.size) 2 (.int .i64 (8)) := ⟨by simp [go_sem], by simp [go_sem]⟩
  replace A0_2 := At.below A0_2 hbw2
  have A0_3 : At (World.alloc w1 (.cells #[.int .i64 (6), .int .i64 (7), .int .i64 (8), .int .i64 (9), .int .i64 (3)] 37)) (w1.heap.size) 3 (.int .i64 (9)) := ⟨by simp [go_sem], by simp [go_sem]⟩
  replace A0_3 := At.below A0_3 hbw2
  have A0_4 : At (World.alloc w1 (.cells #[.int .i64 (6), .int .i64 (7), .int .i64 (8), .int .i64 (9), .int .i64 (3)] 37)) (w1.heap.size) 4 (.int .i64 (3)) := ⟨by simp [go_sem], by simp [go_sem]⟩
  replace A0_4 := At.below A0_4 hbw2
  replace B := below_step B B.size (below_alloc (hbw2))
  clear hbw2
  have F0_0 := A0_0.1; have G0_0 := A0_0.2
  have F0_1 := A0_1.1; have G0_1 := A0_1.2
  have F0_2 := A0_2.1; have G0_2 := A0_2.2
  have F0_3 := A0_3.1; have G0_3 := A0_3.2
  have F0_4 := A0_4.1; have G0_4 := A0_4.2
  have Z0 := A0_0.lt
  go_wp2_with (first | (go_at_call 39; (first | (with_reducible refine (OX.out _).mono ?_) | (with_reducible refine (OY.out _).mono ?_)); rintro e w' ⟨rfl, rfl⟩))
  refine (RU.out _).mono ?_
  rintro e w3 ⟨rfl, hbw3⟩
  clear F0_0 G0_0 F0_1 G0_1 F0_2 G0_2 F0_3 G0_3 F0_4 G0_4 Z0
  replace A0_0 := At.below (A0_0) hbw3
  replace A0_1 := At.below (A0_1) hbw3
  replace A0_2 := At.below (A0_2) hbw3
  replace A0_3 := At.below (A0_3) hbw3
  replace A0_4 := At.below (A0_4) hbw3
  replace B := below_step B B.size (hbw3)
  clear hbw3
  have F0_0 := A0_0.1; have G0_0 := A0_0.2
  have F0_1 := A0_1.1; have G0_1 := A0_1.2
  have F0_2 := A0_2.1; have G0_2 := A0_2.2
  have F0_3 := A0_3.1; have G0_3 := A0_3.2
  have F0_4 := A0_4.1; have G0_4 := A0_4.2
  have Z0 := A0_0.lt
  go_wp2_with fail
  go_ret
  exact ⟨rfl, B⟩

set_option maxHeartbeats 4000000 in
theorem tight_p6_num (a b op : Int) (x y : Nat) (hb1 : -9223372036854775808 ≤ op) (hb2 : op ≤ 9223372036854775807) (hneg : ¬ op < 0) (ho : op.tmod 5 = 0) (L H U D N : Int) (rL : Rg L) (rH : Rg H) (rU : Rg U) (rD : Rg D) (rN : Rg N) (q1 : L = H ∨ (U = H ∧ D = L)) (q2 : N = L ∨ L = U)
    (hOX : ∀ w, Calls Try.prog 39 #[.int .u64 a] w fun e w' => e = .returned (.float .f64 x) ∧ w = w')
    (hOY : ∀ w, Calls Try.prog 39 #[.int .u64 b] w fun e w' => e = .returned (.float .f64 y) ∧ w = w')
    (hRD : ∀ w, Calls Try.prog 35 #[.int .i64 6, .float .f64 x, .float .f64 y, .bool false] w fun e w' => e = .returned (.float .f64 (ofKey L)) ∧ Below w.heap.size w w')
    (hRU : ∀ w, Calls Try.prog 35 #[.int .i64 6, .float .f64 x, .float .f64 y, .bool true] w fun e w' => e = .returned (.float .f64 (ofKey H)) ∧ Below w.heap.size w w')
    (hUP : ∀ w, Calls Try.prog 19 #[.float .f64 (ofKey L)] w fun e w' => e = .returned (.float .f64 (ofKey U)) ∧ w = w')
    (hDN : ∀ w, Calls Try.prog 20 #[.float .f64 (ofKey H)] w fun e w' => e = .returned (.float .f64 (ofKey D)) ∧ w = w')
    (hDU : ∀ w, Calls Try.prog 20 #[.float .f64 (ofKey U)] w fun e w' => e = .returned (.float .f64 (ofKey N)) ∧ w = w') (w : World) :
    Calls Try.prog 10 #[.int .u64 a, .int .u64 b, .int .i64 op] w fun e w' => e = .returned (.bool true) ∧ Below w.heap.size w w' := by
  have AL := Lib.hid alive_any
  have nN := nan_NANW
  have OX := Lib.hid hOX
  have OY := Lib.hid hOY
  have RD := Lib.hid hRD
  have RU := Lib.hid hRU
  have UP := Lib.hid hUP
  have DN := Lib.hid hDN
  have DU := Lib.hid hDU
  clear hOX hOY hRD hRU hUP hDN hDU
  go_enter Try.func10, Try.ntmps10
  go_wp2_with fail
  refine (AL.out _).mono ?_
  rintro e w1 ⟨rfl, hbw1⟩
  have B := hbw1
  clear hbw1
  go_wp2_with (first | (go_at_call 39; (first | (with_reducible refine (OX.out _).mono ?_) | (with_reducible refine (OY.out _).mono ?_)); rintro e w' ⟨rfl, rfl⟩) | (go_at_call 19; refine (UP.out _).mono ?_; rintro e w' ⟨rfl, rfl⟩) | (go_at_call 20; (first | (with_reducible refine (DN.out _).mono ?_) | (with_reducible refine (DU.out _).mono ?_)); rintro e w' ⟨rfl, rfl⟩))
  refine (RD.out _).mono ?_
  rintro e w2 ⟨rfl, hbw2⟩
  have nB : w.heap.size ≤ w1.heap.size := B.size
  have A0_0 : At (World.alloc w1 (.cells #[.int .i64 (6), .int .i64 (7), .int .i64 (8), .int .i64 (9), .int .i64 (3)] 37)) (w1.heap.size) 0 (.int .i64 (6)) := ⟨by simp [go_sem], by simp [go_sem]⟩
  replace A0_0 := At.below A0_0 hbw2
  have A0_1 : At (World.alloc w1 (.cells #[.int .i64 (6), .int .i64 (7), .int .i64 (8), .int .i64 (9), .int .i64 (3)] 37)) (w1.heap.size) 1 (.int .i64 (7)) := ⟨by simp [go_sem], by simp [go_sem]⟩
  replace A0_1 := At.below A0_1 hbw2
  have A0_2 : At (World.alloc w1 (.cells #[.int .i64 (6), .int .i64 (7), .int .i64 (8), .int .i64 (9), .int .i64 (3)] 37)) (w1.heap.size) 2 (.int .i64 (8)) := ⟨by simp [go_sem], by simp [go_sem]⟩
  replace A0_2 := At.below A0_2 hbw2
  have A0_3 : At (World.alloc w1 (.cells #[.int .i64 (6), .int .i64 (7), .int .i64 (8), .int .i64 (9), .int .i64 (3)] 37)) (w1.heap.size) 3 (.int .i64 (9)) := ⟨by simp [go_sem], by simp [go_sem]⟩
  replace A0_3 := At.below A0_3 hbw2
  have A0_4 : At (World.alloc w1 (.cells #[.int .i64 (6), .int .i64 (7), .int .i64 (8), .int .i64 (9), .int .i64 (3)] 37)) (w1.heap.size) 4 (.int .i64 (3)) := ⟨by simp [go_sem], by simp [go_sem]⟩
  replace A0_4 := At.below A0_4 hbw2
  replace B := below_step B B.size (below_alloc (hbw2))
  clear hbw2
  have F0_0 := A0_0.1; have G0_0 := A0_0.2
  have F0_1 := A0_1.1; have G0_1 := A0_1.2
  have F0_2 := A0_2.1; have G0_2 := A0_2.2
  have F0_3 := A0_3.1; have G0_3 := A0_3.2
  have F0_4 := A0_4.1; have G0_4 := A0_4.2
  have Z0 := A0_0.lt
  go_wp2_with (first | (go_at_call 39; (first | (with_reducible refine (OX.out _).mono ?_) | (with_reducible refine (OY.out _).mono ?_)); rintro e w' ⟨rfl, rfl⟩) | (go_at_call 19; refine (UP.out _).mono ?_; rintro e w' ⟨rfl, rfl⟩) | (go_at_call 20; (first | (with_reducible refine (DN.out _).mono ?_) | (with_reducible refine (DU.out _).mono ?_)); rintro e w' ⟨rfl, rfl⟩))
  refine (RU.out _).mono ?_
  rintro e w3 ⟨rfl, hbw3⟩
  clear F0_0 G0_0 F0_1 G0_1 F0_2 G0_2 F0_3 G0_3 F0_4 G0_4 Z0
  replace A0_0 := At.below (A0_0) hbw3
  replace A0_1 := At.below (A0_1) hbw3
  replace A0_2 := At.below (A0_2) hbw3
  replace A0_3 := At.below (A0_3) hbw3
  replace A0_4 := At.below (A0_4) hbw3
  replace B := below_step B B.size (hbw3)
  clear hbw3
  have F0_0 := A0_0.1; have G0_0 := A0_0.2
  have F0_1 := A0_1.1; have G0_1 := A0_1.2
  have F0_2 := A0_2.1; have G0_2 := A0_2.2
  have F0_3 := A0_3.1; have G0_3 := A0_3.2
  have F0_4 := A0_4.1; have G0_4 := A0_4.2
  have Z0 := A0_0.lt
  rcases q1 with rfl | ⟨rfl, rfl⟩ <;> rcases q2 with rfl | rfl
  all_goals (go_wp2_with (first | (go_at_call 39; (first | (with_reducible refine (OX.out _).mono ?_) | (with_reducible refine (OY.out _).mono ?_)); rintro e w' ⟨rfl, rfl⟩) | (go_at_call 19; refine (UP.out _).mono ?_; rintro e w' ⟨rfl, rfl⟩) | (go_at_call 20; (first | (with_reducible refine (DN.out _).mono ?_) | (with_reducible refine (DU.out _).mono ?_)); rintro e w' ⟨rfl, rfl⟩)))
  all_goals go_ret
  all_goals exact ⟨ret_b (by (first | rfl | (refine (decide_eq_true ?_).symm; omega) | (refine (decide_eq_false ?_).symm; omega) | (refine decide_eq_decide.2 ?_; omega) | (rw [Bool.eq_iff_iff]; simp only [Bool.and_eq_true, Bool.or_eq_true, Bool.not_eq_true, Bool.not_eq_eq_eq_not, Bool.not_true, Bool.not_false, decide_eq_true_eq, decide_eq_false_iff_not, Bool.false_eq_true, true_iff, false_iff] <;> omega))), B⟩

set_option maxHeartbeats 4000000 in
theorem tight_p7_nan (a b op : Int) (x y : Nat) (hb1 : -9223372036854775808 ≤ op) (hb2 : op ≤ 9223372036854775807) (hneg : ¬ op < 0) (ho : op.tmod 5 = 1)
    (hOX : ∀ w, Calls Try.prog 39 #[.int .u64 a] w fun e w' => e = .returned (.float .f64 x) ∧ w = w')
    (hOY : ∀ w, Calls Try.prog 39 #[.int .u64 b] w fun e w' => e = .returned (.float .f64 y) ∧ w = w')
    (hRD : ∀ w, Calls Try.prog 35 #[.int .i64 7, .float .f64 x, .float .f64 y, .bool false] w fun e w' => e = .returned (.float .f64 (NANW)) ∧ Below w.heap.size w w')
    (hRU : ∀ w, Calls Try.prog 35 #[.int .i64 7, .float .f64 x, .float .f64 y, .bool true] w fun e w' => e = .returned (.float .f64 (NANW)) ∧ Below w.heap.size w w') (w : World) :
    Calls Try.prog 10 #[.int .u64 a, .int .u64 b, .int .i64 op] w fun e w' => e = .returned (.bool true) ∧ Below w.heap.size w w' := by
  have AL := Lib.hid alive_any
  have nN := nan_NANW
  have OX := Lib.hid hOX
  have OY := Lib.hid hOY
  have RD := Lib.hid hRD
  have RU := Lib.hid hRU
  clear hOX hOY hRD hRU
  go_enter Try.func10, Try.ntmps10
  go_wp2_with fail
  refine (AL.out _).mono ?_
  rintro e w1 ⟨rfl, hbw1⟩
  have B := hbw1
  clear hbw1
  go_wp2_with (first | (go_at_call 39; (first | (with_reducible refine (OX.out _).mono ?_) | (with_reducible refine (OY.out _).mono ?_)); rintro e w' ⟨rfl, rfl⟩))
  refine (RD.out _).mono ?_
  rintro e w2 ⟨rfl, hbw2⟩
  have nB : w.heap.size ≤ w1.heap.size := B.size
  have A0_0 : At (World.alloc w1 (.cells #[.int .i64 (6), .int .i64 (7), .int .i64 (8), .int .i64 (9), .int .i64 (3)] 37)) (w1.heap.size) 0 (.int .i64 (6)) := ⟨by simp [go_sem], by simp [go_sem]⟩
  replace A0_0 := At.below A0_0 hbw2
  have A0_1 : At (World.alloc w1 (.cells #[.int .i64 (6), .int .i64 (7), .int .i64 (8), .int .i64 (9), .int .i64 (3)] 37)) (w1.heap.size) 1 (.int .i64 (7)) := ⟨by simp [go_sem], by simp [go_sem]⟩
  replace A0_1 := At.below A0_1 hbw2
  have A0_2 : At (World.alloc w1 (.cells #[.int .i64 (6), .int .i64 (7), .int .i64 (8), .int .i64 (9), .int .i64 (3)] 37)) (w1.heap.size) 2 (.int .i64 (8)) := ⟨by simp [go_sem], by simp [go_sem]⟩
  replace A0_2 := At.below A0_2 hbw2
  have A0_3 : At (World.alloc w1 (.cells #[.int .i64 (6), .int .i64 (7), .int .i64 (8), .int .i64 (9), .int .i64 (3)] 37)) (w1.heap.size) 3 (.int .i64 (9)) := ⟨by simp [go_sem], by simp [go_sem]⟩
  replace A0_3 := At.below A0_3 hbw2
  have A0_4 : At (World.alloc w1 (.cells #[.int .i64 (6), .int .i64 (7), .int .i64 (8), .int .i64 (9), .int .i64 (3)] 37)) (w1.heap.size) 4 (.int .i64 (3)) := ⟨by simp [go_sem], by simp [go_sem]⟩
  replace A0_4 := At.below A0_4 hbw2
  replace B := below_step B B.size (below_alloc (hbw2))
  clear hbw2
  have F0_0 := A0_0.1; have G0_0 := A0_0.2
  have F0_1 := A0_1.1; have G0_1 := A0_1.2
  have F0_2 := A0_2.1; have G0_2 := A0_2.2
  have F0_3 := A0_3.1; have G0_3 := A0_3.2
  have F0_4 := A0_4.1; have G0_4 := A0_4.2
  have Z0 := A0_0.lt
  go_wp2_with (first | (go_at_call 39; (first | (with_reducible refine (OX.out _).mono ?_) | (with_reducible refine (OY.out _).mono ?_)); rintro e w' ⟨rfl, rfl⟩))
  refine (RU.out _).mono ?_
  rintro e w3 ⟨rfl, hbw3⟩
  clear F0_0 G0_0 F0_1 G0_1 F0_2 G0_2 F0_3 G0_3 F0_4 G0_4 Z0
  replace A0_0 := At.below (A0_0) hbw3
  replace A0_1 := At.below (A0_1) hbw3
  replace A0_2 := At.below (A0_2) hbw3
  replace A0_3 := At.below (A0_3) hbw3
  replace A0_4 := At.below (A0_4) hbw3
  replace B := below_step B B.size (hbw3)
  clear hbw3
  have F0_0 := A0_0.1; have G0_0 := A0_0.2
  have F0_1 := A0_1.1; have G0_1 := A0_1.2
  have F0_2 := A0_2.1; have G0_2 := A0_2.2
  have F0_3 := A0_3.1; have G0_3 := A0_3.2
  have F0_4 := A0_4.1; have G0_4 := A0_4.2
  have Z0 := A0_0.lt
  go_wp2_with fail
  go_ret
  exact ⟨rfl, B⟩

set_option maxHeartbeats 4000000 in
theorem tight_p7_num (a b op : Int) (x y : Nat) (hb1 : -9223372036854775808 ≤ op) (hb2 : op ≤ 9223372036854775807) (hneg : ¬ op < 0) (ho : op.tmod 5 = 1) (L H U D N : Int) (rL : Rg L) (rH : Rg H) (rU : Rg U) (rD : Rg D) (rN : Rg N) (q1 : L = H ∨ (U = H ∧ D = L)) (q2 : N = L ∨ L = U)
    (hOX : ∀ w, Calls Try.prog 39 #[.int .u64 a] w fun e w' => e = .returned (.float .f64 x) ∧ w = w')
    (hOY : ∀ w, Calls Try.prog 39 #[.int .u64 b] w fun e w' => e = .returned (.float .f64 y) ∧ w = w')
    (hRD : ∀ w, Calls Try.prog 35 #[.int .i64 7, .float .f64 x, .float .f64 y, .bool false] w fun e w' => e = .returned (.float .f64 (ofKey L)) ∧ Below w.heap.size w w')
    (hRU : ∀ w, Calls Try.prog 35 #[.int .i64 7, .float .f64 x, .float .f64 y, .bool true] w fun e w' => e = .returned (.float .f64 (ofKey H)) ∧ Below w.heap.size w w')
    (hUP : ∀ w, Calls Try.prog 19 #[.float .f64 (ofKey L)] w fun e w' => e = .returned (.float .f64 (ofKey U)) ∧ w = w')
    (hDN : ∀ w, Calls Try.prog 20 #[.float .f64 (ofKey H)] w fun e w' => e = .returned (.float .f64 (ofKey D)) ∧ w = w')
    (hDU : ∀ w, Calls Try.prog 20 #[.float .f64 (ofKey U)] w fun e w' => e = .returned (.float .f64 (ofKey N)) ∧ w = w') (w : World) :
    Calls Try.prog 10 #[.int .u64 a, .int .u64 b, .int .i64 op] w fun e w' => e = .returned (.bool true) ∧ Below w.heap.size w w' := by
  have AL := Lib.hid alive_any
  have nN := nan_NANW
  have OX := Lib.hid hOX
  have OY := Lib.hid hOY
  have RD := Lib.hid hRD
  have RU := Lib.hid hRU
  have UP := Lib.hid hUP
  have DN := Lib.hid hDN
  have DU := Lib.hid hDU
  clear hOX hOY hRD hRU hUP hDN hDU
  go_enter Try.func10, Try.ntmps10
  go_wp2_with fail
  refine (AL.out _).mono ?_
  rintro e w1 ⟨rfl, hbw1⟩
  have B := hbw1
  clear hbw1
  go_wp2_with (first | (go_at_call 39; (first | (with_reducible refine (OX.out _).mono ?_) | (with_reducible refine (OY.out _).mono ?_)); rintro e w' ⟨rfl, rfl⟩) | (go_at_call 19; refine (UP.out _).mono ?_; rintro e w' ⟨rfl, rfl⟩) | (go_at_call 20; (first | (with_reducible refine (DN.out _).mono ?_) | (with_reducible refine (DU.out _).mono ?_)); rintro e w' ⟨rfl, rfl⟩))
  refine (RD.out _).mono ?_
  rintro e w2 ⟨rfl, hbw2⟩
  have nB : w.heap.size ≤ w1.heap.size := B.size
  have A0_0 : At (World.alloc w1 (.cells #[.int .i64 (6), .int .i64 (7), .int .i64 (8), .int .i64 (9), .int .i64 (3)] 37)) (w1.heap.size) 0 (.int .i64 (6)) := ⟨by simp [go_sem], by simp [go_sem]⟩
  replace A0_0 := At.below A0_0 hbw2
  have A0_1 : At (World.alloc w1 (.cells #[.int .i64 (6), .int .i64 (7), .int .i64 (8), .int .i64 (9), .int .i64 (3)] 37)) (w1.heap.size) 1 (.int .i64 (7)) := ⟨by simp [go_sem], by simp [go_sem]⟩
  replace A0_1 := At.below A0_1 hbw2
  have A0_2 : At (World.alloc w1 (.cells #[.int .i64 (6), .int .i64 (7), .int .i64 (8), .int .i64 (9), .int .i64 (3)] 37)) (w1.heap.size) 2 (.int .i64 (8)) := ⟨by simp [go_sem], by simp [go_sem]⟩
  replace A0_2 := At.below A0_2 hbw2
  have A0_3 : At (World.alloc w1 (.cells #[.int .i64 (6), .int .i64 (7), .int .i64 (8), .int .i64 (9), .int .i64 (3)] 37)) (w1.heap.size) 3 (.int .i64 (9)) := ⟨by simp [go_sem], by simp [go_sem]⟩
  replace A0_3 := At.below A0_3 hbw2
  have A0_4 : At (World.alloc w1 (.cells #[.int .i64 (6), .int .i64 (7), .int .i64 (8), .int .i64 (9), .int .i64 (3)] 37)) (w1.heap.size) 4 (.int .i64 (3)) := ⟨by simp [go_sem], by simp [go_sem]⟩
  replace A0_4 := At.below A0_4 hbw2
  replace B := below_step B B.size (below_alloc (hbw2))
  clear hbw2
  have F0_0 := A0_0.1; have G0_0 := A0_0.2
  have F0_1 := A0_1.1; have G0_1 := A0_1.2
  have F0_2 := A0_2.1; have G0_2 := A0_2.2
  have F0_3 := A0_3.1; have G0_3 := A0_3.2
  have F0_4 := A0_4.1; have G0_4 := A0_4.2
  have Z0 := A0_0.lt
  go_wp2_with (first | (go_at_call 39; (first | (with_reducible refine (OX.out _).mono ?_) | (with_reducible refine (OY.out _).mono ?_)); rintro e w' ⟨rfl, rfl⟩) | (go_at_call 19; refine (UP.out _).mono ?_; rintro e w' ⟨rfl, rfl⟩) | (go_at_call 20; (first | (with_reducible refine (DN.out _).mono ?_) | (with_reducible refine (DU.out _).mono ?_)); rintro e w' ⟨rfl, rfl⟩))
  refine (RU.out _).mono ?_
  rintro e w3 ⟨rfl, hbw3⟩
  clear F0_0 G0_0 F0_1 G0_1 F0_2 G0_2 F0_3 G0_3 F0_4 G0_4 Z0
  replace A0_0 := At.below (A0_0) hbw3
  replace A0_1 := At.below (A0_1) hbw3
  replace A0_2 := At.below (A0_2) hbw3
  replace A0_3 := At.below (A0_3) hbw3
  replace A0_4 := At.below (A0_4) hbw3
  replace B := below_step B B.size (hbw3)
  clear hbw3
  have F0_0 := A0_0.1; have G0_0 := A0_0.2
  have F0_1 := A0_1.1; have G0_1 := A0_1.2
  have F0_2 := A0_2.1; have G0_2 := A0_2.2
  have F0_3 := A0_3.1; have G0_3 := A0_3.2
  have F0_4 := A0_4.1; have G0_4 := A0_4.2
  have Z0 := A0_0.lt
  rcases q1 with rfl | ⟨rfl, rfl⟩ <;> rcases q2 with rfl | rfl
  all_goals (go_wp2_with (first | (go_at_call 39; (first | (with_reducible refine (OX.out _).mono ?_) | (with_reducible refine (OY.out _).mono ?_)); rintro e w' ⟨rfl, rfl⟩) | (go_at_call 19; refine (UP.out _).mono ?_; rintro e w' ⟨rfl, rfl⟩) | (go_at_call 20; (first | (with_reducible refine (DN.out _).mono ?_) | (with_reducible refine (DU.out _).mono ?_)); rintro e w' ⟨rfl, rfl⟩)))
  all_goals go_ret
  all_goals exact ⟨ret_b (by (first | rfl | (refine (decide_eq_true ?_).symm; omega) | (refine (decide_eq_false ?_).symm; omega) | (refine decide_eq_decide.2 ?_; omega) | (rw [Bool.eq_iff_iff]; simp only [Bool.and_eq_true, Bool.or_eq_true, Bool.not_eq_true, Bool.not_eq_eq_eq_not, Bool.not_true, Bool.not_false, decide_eq_true_eq, decide_eq_false_iff_not, Bool.false_eq_true, true_iff, false_iff] <;> omega))), B⟩

set_option maxHeartbeats 4000000 in
theorem tight_p8_nan (a b op : Int) (x y : Nat) (hb1 : -9223372036854775808 ≤ op) (hb2 : op ≤ 9223372036854775807) (hneg : ¬ op < 0) (ho : op.tmod 5 = 2)
    (hOX : ∀ w, Calls Try.prog 39 #[.int .u64 a] w fun e w' => e = .returned (.float .f64 x) ∧ w = w')
    (hOY : ∀ w, Calls Try.prog 39 #[.int .u64 b] w fun e w' => e = .returned (.float .f64 y) ∧ w = w')
    (hRD : ∀ w, Calls Try.prog 35 #[.int .i64 8, .float .f64 x, .float .f64 y, .bool false] w fun e w' => e = .returned (.float .f64 (NANW)) ∧ Below w.heap.size w w')
    (hRU : ∀ w, Calls Try.prog 35 #[.int .i64 8, .float .f64 x, .float .f64 y, .bool true] w fun e w' => e = .returned (.float .f64 (NANW)) ∧ Below w.heap.size w w') (w : World) :
    Calls Try.prog 10 #[.int .u64 a, .int .u64 b, .int .i64 op] w fun e w' => e = .returned (.bool true) ∧ Below w.heap.size w w' := by
  have AL := Lib.hid alive_any
  have nN := nan_NANW
  have OX := Lib.hid hOX
  have OY := Lib.hid hOY
  have RD := Lib.hid hRD
  have RU := Lib.hid hRU
  clear hOX hOY hRD hRU
  go_enter Try.func10, Try.ntmps10
  go_wp2_with fail
  refine (AL.out _).mono ?_
  rintro e w1 ⟨rfl, hbw1⟩
  have B := hbw1
  clear hbw1
  go_wp2_with (first | (go_at_call 39; (first | (with_reducible refine (OX.out _).mono ?_) | (with_reducible refine (OY.out _).mono ?_)); rintro e w' ⟨rfl, rfl⟩))
  refine (RD.out _).mono ?_
  rintro e w2 ⟨rfl, hbw2⟩
  have nB : w.heap.size ≤ w1.heap.size := B.size
  have A0_0 : At (World.alloc w1 (.cells #[.int .i64 (6), .int .i64 (7), .int .i64 (8), .int .i64 (9), .int .i64 (3)] 37)) (w1.heap.size) 0 (.int .i64 (6)) := ⟨by simp [go_sem], by simp [go_sem]⟩
  replace A0_0 := At.below A0_0 hbw2
  have A0_1 : At (World.alloc w1 (.cells #[.int .i64 (6), .int .i64 (7), .int .i64 (8), .int .i64 (9), .int .i64 (3)] 37)) (w1.heap.size) 1 (.int .i64 (7)) := ⟨by simp [go_sem], by simp [go_sem]⟩
  replace A0_1 := At.below A0_1 hbw2
  have A0_2 : At (World.alloc w1 (.cells #[.int .i64 (6), .int .i64 (7), .int .i64 (8), .int .i64 (9), .int .i64 (3)] 37)) (w1.heap.size) 2 (.int .i64 (8)) := ⟨by simp [go_sem], by simp [go_sem]⟩
  replace A0_2 := At.below A0_2 hbw2
  have A0_3 : At (World.alloc w1 (.cells #[.int .i64 (6), .int .i64 (7), .int .i64 (8), .int .i64 (9), .int .i64 (3)] 37)) (w1.heap.size) 3 (.int .i64 (9)) := ⟨by simp [go_sem], by simp [go_sem]⟩
  replace A0_3 := At.below A0_3 hbw2
  have A0_4 : At (World.alloc w1 (.cells #[.int .i64 (6), .int .i64 (7), .int .i64 (8), .int .i64 (9), .int .i64 (3)] 37)) (w1.heap.size) 4 (.int .i64 (3)) := ⟨by simp [go_sem], by simp [go_sem]⟩
  replace A0_4 := At.below A0_4 hbw2
  replace B := below_step B B.size (below_alloc (hbw2))
  clear hbw2
  have F0_0 := A0_0.1; have G0_0 := A0_0.2
  have F0_1 := A0_1.1; have G0_1 := A0_1.2
  have F0_2 := A0_2.1; have G0_2 := A0_2.2
  have F0_3 := A0_3.1; have G0_3 := A0_3.2
  have F0_4 := A0_4.1; have G0_4 := A0_4.2
  have Z0 := A0_0.lt
  go_wp2_with (first | (go_at_call 39; (first | (with_reducible refine (OX.out _).mono ?_) | (with_reducible refine (OY.out _).mono ?_)); rintro e w' ⟨rfl, rfl⟩))
  refine (RU.out _).mono ?_
  rintro e w3 ⟨rfl, hbw3⟩
  clear F0_0 G0_0 F0_1 G0_1 F0_2 G0_2 F0_3 G0_3 F0_4 G0_4 Z0
  replace A0_0 := At.below (A0_0) hbw3
  replace A0_1 := At.below (A0_1) hbw3
  replace A0_2 := At.below (A0_2) hbw3
  replace A0_3 := At.below (A0_3) hbw3
  replace A0_4 := At.below (A0_4) hbw3
  replace B := below_step B B.size (hbw3)
  clear hbw3
  have F0_0 := A0_0.1; have G0_0 := A0_0.2
  have F0_1 := A0_1.1; have G0_1 := A0_1.2
  have F0_2 := A0_2.1; have G0_2 := A0_2.2
  have F0_3 := A0_3.1; have G0_3 := A0_3.2
  have F0_4 := A0_4.1; have G0_4 := A0_4.2
  have Z0 := A0_0.lt
  go_wp2_with fail
  go_ret
  exact ⟨rfl, B⟩

set_option maxHeartbeats 4000000 in
theorem tight_p8_num (a b op : Int) (x y : Nat) (hb1 : -9223372036854775808 ≤ op) (hb2 : op ≤ 9223372036854775807) (hneg : ¬ op < 0) (ho : op.tmod 5 = 2) (L H U D N : Int) (rL : Rg L) (rH : Rg H) (rU : Rg U) (rD : Rg D) (rN : Rg N) (q1 : L = H ∨ (U = H ∧ D = L)) (q2 : N = L ∨ L = U)
    (hOX : ∀ w, Calls Try.prog 39 #[.int .u64 a] w fun e w' => e = .returned (.float .f64 x) ∧ w = w')
    (hOY : ∀ w, Calls Try.prog 39 #[.int .u64 b] w fun e w' => e = .returned (.float .f64 y) ∧ w = w')
    (hRD : ∀ w, Calls Try.prog 35 #[.int .i64 8, .float .f64 x, .float .f64 y, .bool false] w fun e w' => e = .returned (.float .f64 (ofKey L)) ∧ Below w.heap.size w w')
    (hRU : ∀ w, Calls Try.prog 35 #[.int .i64 8, .float .f64 x, .float .f64 y, .bool true] w fun e w' => e = .returned (.float .f64 (ofKey H)) ∧ Below w.heap.size w w')
    (hUP : ∀ w, Calls Try.prog 19 #[.float .f64 (ofKey L)] w fun e w' => e = .returned (.float .f64 (ofKey U)) ∧ w = w')
    (hDN : ∀ w, Calls Try.prog 20 #[.float .f64 (ofKey H)] w fun e w' => e = .returned (.float .f64 (ofKey D)) ∧ w = w')
    (hDU : ∀ w, Calls Try.prog 20 #[.float .f64 (ofKey U)] w fun e w' => e = .returned (.float .f64 (ofKey N)) ∧ w = w') (w : World) :
    Calls Try.prog 10 #[.int .u64 a, .int .u64 b, .int .i64 op] w fun e w' => e = .returned (.bool true) ∧ Below w.heap.size w w' := by
  have AL := Lib.hid alive_any
  have nN := nan_NANW
  have OX := Lib.hid hOX
  have OY := Lib.hid hOY
  have RD := Lib.hid hRD
  have RU := Lib.hid hRU
  have UP := Lib.hid hUP
  have DN := Lib.hid hDN
  have DU := Lib.hid hDU
  clear hOX hOY hRD hRU hUP hDN hDU
  go_enter Try.func10, Try.ntmps10
  go_wp2_with fail
  refine (AL.out _).mono ?_
  rintro e w1 ⟨rfl, hbw1⟩
  have B := hbw1
  clear hbw1
  go_wp2_with (first | (go_at_call 39; (first | (with_reducible refine (OX.out _).mono ?_) | (with_reducible refine (OY.out _).mono ?_)); rintro e w' ⟨rfl, rfl⟩) | (go_at_call 19; refine (UP.out _).mono ?_; rintro e w' ⟨rfl, rfl⟩) | (go_at_call 20; (first | (with_reducible refine (DN.out _).mono ?_) | (with_reducible refine (DU.out _).mono ?_)); rintro e w' ⟨rfl, rfl⟩))
  refine (RD.out _).mono ?_
  rintro e w2 ⟨rfl, hbw2⟩
  have nB : w.heap.size ≤ w1.heap.size := B.size
  have A0_0 : At (World.alloc w1 (.cells #[.int .i64 (6), .int .i64 (7), .int .i64 (8), .int .i64 (9), .int .i64 (3)] 37)) (w1.heap.size) 0 (.int .i64 (6)) := ⟨by simp [go_sem], by simp [go_sem]⟩
  replace A0_0 := At.below A0_0 hbw2
  have A0_1 : At (World.alloc w1 (.cells #[.int .i64 (6), .int .i64 (7), .int .i64 (8), .int .i64 (9), .int .i64 (3)] 37)) (w1.heap.size) 1 (.int .i64 (7)) := ⟨by simp [go_sem], by simp [go_sem]⟩
  replace A0_1 := At.below A0_1 hbw2
  have A0_2 : At (World.alloc w1 (.cells #[.int .i64 (6), .int .i64 (7), .int .i64 (8), .int .i64 (9), .int .i64 (3)] 37)) (w1.heap.size) 2 (.int .i64 (8)) := ⟨by simp [go_sem], by simp [go_sem]⟩
  replace A0_2 := At.below A0_2 hbw2
  have A0_3 : At (World.alloc w1 (.cells #[.int .i64 (6), .int .i64 (7), .int .i64 (8), .int .i64 (9), .int .i64 (3)] 37)) (w1.heap.size) 3 (.int .i64 (9)) := ⟨by simp [go_sem], by simp [go_sem]⟩
  replace A0_3 := At.below A0_3 hbw2
  have A0_4 : At (World.alloc w1 (.cells #[.int .i64 (6), .int .i64 (7), .int .i64 (8), .int .i64 (9), .int .i64 (3)] 37)) (w1.heap.size) 4 (.int .i64 (3)) := ⟨by simp [go_sem], by simp [go_sem]⟩
  replace A0_4 := At.below A0_4 hbw2
  replace B := below_step B B.size (below_alloc (hbw2))
  clear hbw2
  have F0_0 := A0_0.1; have G0_0 := A0_0.2
  have F0_1 := A0_1.1; have G0_1 := A0_1.2
  have F0_2 := A0_2.1; have G0_2 := A0_2.2
  have F0_3 := A0_3.1; have G0_3 := A0_3.2
  have F0_4 := A0_4.1; have G0_4 := A0_4.2
  have Z0 := A0_0.lt
  go_wp2_with (first | (go_at_call 39; (first | (with_reducible refine (OX.out _).mono ?_) | (with_reducible refine (OY.out _).mono ?_)); rintro e w' ⟨rfl, rfl⟩) | (go_at_call 19; refine (UP.out _).mono ?_; rintro e w' ⟨rfl, rfl⟩) | (go_at_call 20; (first | (with_reducible refine (DN.out _).mono ?_) | (with_reducible refine (DU.out _).mono ?_)); rintro e w' ⟨rfl, rfl⟩))
  refine (RU.out _).mono ?_
  rintro e w3 ⟨rfl, hbw3⟩
  clear F0_0 G0_0 F0_1 G0_1 F0_2 G0_2 F0_3 G0_3 F0_4 G0_4 Z0
  replace A0_0 := At.below (A0_0) hbw3
  replace A0_1 := At.below (A0_1) hbw3
  replace A0_2 := At.below (A0_2) hbw3
  replace A0_3 := At.below (A0_3) hbw3
  replace A0_4 := At.below (A0_4) hbw3
  replace B := below_step B B.size (hbw3)
  clear hbw3
  have F0_0 := A0_0.1; have G0_0 := A0_0.2
  have F0_1 := A0_1.1; have G0_1 := A0_1.2
  have F0_2 := A0_2.1; have G0_2 := A0_2.2
  have F0_3 := A0_3.1; have G0_3 := A0_3.2
  have F0_4 := A0_4.1; have G0_4 := A0_4.2
  have Z0 := A0_0.lt
  rcases q1 with rfl | ⟨rfl, rfl⟩ <;> rcases q2 with rfl | rfl
  all_goals (go_wp2_with (first | (go_at_call 39; (first | (with_reducible refine (OX.out _).mono ?_) | (with_reducible refine (OY.out _).mono ?_)); rintro e w' ⟨rfl, rfl⟩) | (go_at_call 19; refine (UP.out _).mono ?_; rintro e w' ⟨rfl, rfl⟩) | (go_at_call 20; (first | (with_reducible refine (DN.out _).mono ?_) | (with_reducible refine (DU.out _).mono ?_)); rintro e w' ⟨rfl, rfl⟩)))
  all_goals go_ret
  all_goals exact ⟨ret_b (by (first | rfl | (refine (decide_eq_true ?_).symm; omega) | (refine (decide_eq_false ?_).symm; omega) | (refine decide_eq_decide.2 ?_; omega) | (rw [Bool.eq_iff_iff]; simp only [Bool.and_eq_true, Bool.or_eq_true, Bool.not_eq_true, Bool.not_eq_eq_eq_not, Bool.not_true, Bool.not_false, decide_eq_true_eq, decide_eq_false_iff_not, Bool.false_eq_true, true_iff, false_iff] <;> omega))), B⟩

set_option maxHeartbeats 4000000 in
theorem tight_p9_nan (a b op : Int) (x y : Nat) (hb1 : -9223372036854775808 ≤ op) (hb2 : op ≤ 9223372036854775807) (hneg : ¬ op < 0) (ho : op.tmod 5 = 3)
    (hOX : ∀ w, Calls Try.prog 39 #[.int .u64 a] w fun e w' => e = .returned (.float .f64 x) ∧ w = w')
    (hOY : ∀ w, Calls Try.prog 39 #[.int .u64 b] w fun e w' => e = .returned (.float .f64 y) ∧ w = w')
    (hRD : ∀ w, Calls Try.prog 35 #[.int .i64 9, .float .f64 x, .float .f64 y, .bool false] w fun e w' => e = .returned (.float .f64 (NANW)) ∧ Below w.heap.size w w')
    (hRU : ∀ w, Calls Try.prog 35 #[.int .i64 9, .float .f64 x, .float .f64 y, .bool true] w fun e w' => e = .returned (.float .f64 (NANW)) ∧ Below w.heap.size w w') (w : World) :
    Calls Try.prog 10 #[.int .u64 a, .int .u64 b, .int .i64 op] w fun e w' => e = .returned (.bool true) ∧ Below w.heap.size w w' := by
  have AL := Lib.hid alive_any
  have nN := nan_NANW
  have OX := Lib.hid hOX
  have OY := Lib.hid hOY
  have RD := Lib.hid hRD
  have RU := Lib.hid hRU
  clear hOX hOY hRD hRU
  go_enter Try.func10, Try.ntmps10
  go_wp2_with fail
  refine (AL.out _).mono ?_
  rintro e w1 ⟨rfl, hbw1⟩
  have B := hbw1
  clear hbw1
  go_wp2_with (first | (go_at_call 39; (first | (with_reducible refine (OX.out _).mono ?_) | (with_reducible refine (OY.out _).mono ?_)); rintro e w' ⟨rfl, rfl⟩))
  refine (RD.out _).mono ?_
  rintro e w2 ⟨rfl, hbw2⟩
  have nB : w.heap.size ≤ w1.heap.size := B.size
  have A0_0 : At (World.alloc w1 (.cells #[.int .i64 (6), .int .i64 (7), .int .i64 (8), .int .i64 (9), .int .i64 (3)] 37)) (w1.heap.size) 0 (.int .i64 (6)) := ⟨by simp [go_sem], by simp [go_sem]⟩
  replace A0_0 := At.below A0_0 hbw2
  have A0_1 : At (World.alloc w1 (.cells #[.int .i64 (6), .int .i64 (7), .int .i64 (8), .int .i64 (9), .int .i64 (3)] 37)) (w1.heap.size) 1 (.int .i64 (7)) := ⟨by simp [go_sem], by simp [go_sem]⟩
  replace A0_1 := At.below A0_1 hbw2
  have A0_2 : At (World.alloc w1 (.cells #[.int .i64 (6), .int .i64 (7), .int .i64 (8), .int .i64 (9), .int .i64 (3)] 37)) (w1.heap.size) 2 (.int .i64 (8)) := ⟨by simp [go_sem], by simp [go_sem]⟩
  replace A0_2 := At.below A0_2 hbw2
  have A0_3 : At (World.alloc w1 (.cells #[.int .i64 (6), .int .i64 (7), .int .i64 (8), .int .i64 (9), .int .i64 (3)] 37)) (w1.heap.size) 3 (.int .i64 (9)) := ⟨by simp [go_sem], by simp [go_sem]⟩
  replace A0_3 := At.below A0_3 hbw2
  have A0_4 : At (World.alloc w1 (.cells #[.int .i64 (6), .int .i64 (7), .int .i64 (8), .int .i64 (9), .int .i64 (3)] 37)) (w1.heap.size) 4 (.int .i64 (3)) := ⟨by simp [go_sem], by simp [go_sem]⟩
  replace A0_4 := At.below A0_4 hbw2
  replace B := below_step B B.size (below_alloc (hbw2))
  clear hbw2
  have F0_0 := A0_0.1; have G0_0 := A0_0.2
  have F0_1 := A0_1.1; have G0_1 := A0_1.2
  have F0_2 := A0_2.1; have G0_2 := A0_2.2
  have F0_3 := A0_3.1; have G0_3 := A0_3.2
  have F0_4 := A0_4.1; have G0_4 := A0_4.2
  have Z0 := A0_0.lt
  go_wp2_with (first | (go_at_call 39; (first | (with_reducible refine (OX.out _).mono ?_) | (with_reducible refine (OY.out _).mono ?_)); rintro e w' ⟨rfl, rfl⟩))
  refine (RU.out _).mono ?_
  rintro e w3 ⟨rfl, hbw3⟩
  clear F0_0 G0_0 F0_1 G0_1 F0_2 G0_2 F0_3 G0_3 F0_4 G0_4 Z0
  replace A0_0 := At.below (A0_0) hbw3
  replace A0_1 := At.below (A0_1) hbw3
  replace A0_2 := At.below (A0_2) hbw3
  replace A0_3 := At.below (A0_3) hbw3
  replace A0_4 := At.below (A0_4) hbw3
  replace B := below_step B B.size (hbw3)
  clear hbw3
  have F0_0 := A0_0.1; have G0_0 := A0_0.2
  have F0_1 := A0_1.1; have G0_1 := A0_1.2
  have F0_2 := A0_2.1; have G0_2 := A0_2.2
  have F0_3 := A0_3.1; have G0_3 := A0_3.2
  have F0_4 := A0_4.1; have G0_4 := A0_4.2
  have Z0 := A0_0.lt
  go_wp2_with fail
  go_ret
  exact ⟨rfl, B⟩

set_option maxHeartbeats 4000000 in
theorem tight_p9_num (a b op : Int) (x y : Nat) (hb1 : -9223372036854775808 ≤ op) (hb2 : op ≤ 9223372036854775807) (hneg : ¬ op < 0) (ho : op.tmod 5 = 3) (L H U D N : Int) (rL : Rg L) (rH : Rg H) (rU : Rg U) (rD : Rg D) (rN : Rg N) (q1 : L = H ∨ (U = H ∧ D = L)) (q2 : N = L ∨ L = U)
    (hOX : ∀ w, Calls Try.prog 39 #[.int .u64 a] w fun e w' => e = .returned (.float .f64 x) ∧ w = w')
    (hOY : ∀ w, Calls Try.prog 39 #[.int .u64 b] w fun e w' => e = .returned (.float .f64 y) ∧ w = w')
    (hRD : ∀ w, Calls Try.prog 35 #[.int .i64 9, .float .f64 x, .float .f64 y, .bool false] w fun e w' => e = .returned (.float .f64 (ofKey L)) ∧ Below w.heap.size w w')
    (hRU : ∀ w, Calls Try.prog 35 #[.int .i64 9, .float .f64 x, .float .f64 y, .bool true] w fun e w' => e = .returned (.float .f64 (ofKey H)) ∧ Below w.heap.size w w')
    (hUP : ∀ w, Calls Try.prog 19 #[.float .f64 (ofKey L)] w fun e w' => e = .returned (.float .f64 (ofKey U)) ∧ w = w')
    (hDN : ∀ w, Calls Try.prog 20 #[.float .f64 (ofKey H)] w fun e w' => e = .returned (.float .f64 (ofKey D)) ∧ w = w')
    (hDU : ∀ w, Calls Try.prog 20 #[.float .f64 (ofKey U)] w fun e w' => e = .returned (.float .f64 (ofKey N)) ∧ w = w') (w : World) :
    Calls Try.prog 10 #[.int .u64 a, .int .u64 b, .int .i64 op] w fun e w' => e = .returned (.bool true) ∧ Below w.heap.size w w' := by
  have AL := Lib.hid alive_any
  have nN := nan_NANW
  have OX := Lib.hid hOX
  have OY := Lib.hid hOY
  have RD := Lib.hid hRD
  have RU := Lib.hid hRU
  have UP := Lib.hid hUP
  have DN := Lib.hid hDN
  have DU := Lib.hid hDU
  clear hOX hOY hRD hRU hUP hDN hDU
  go_enter Try.func10, Try.ntmps10
  go_wp2_with fail
  refine (AL.out _).mono ?_
  rintro e w1 ⟨rfl, hbw1⟩
  have B := hbw1
  clear hbw1
  go_wp2_with (first | (go_at_call 39; (first | (with_reducible refine (OX.out _).mono ?_) | (with_reducible refine (OY.out _).mono ?_)); rintro e w' ⟨rfl, rfl⟩) | (go_at_call 19; refine (UP.out _).mono ?_; rintro e w' ⟨rfl, rfl⟩) | (go_at_call 20; (first | (with_reducible refine (DN.out _).mono ?_) | (with_reducible refine (DU.out _).mono ?_)); rintro e w' ⟨rfl, rfl⟩))
  refine (RD.out _).mono ?_
  rintro e w2 ⟨rfl, hbw2⟩
  have nB : w.heap.size ≤ w1.heap.size := B.size
  have A0_0 : At (World.alloc w1 (.cells #[.int .i64 (6), .int .i64 (7), .int .i64 (8), .int .i64 (9), .int .i64 (3)] 37)) (w1.heap.size) 0 (.int .i64 (6)) := ⟨by simp [go_sem], by simp [go_sem]⟩
  replace A0_0 := At.below A0_0 hbw2
  have A0_1 : At (World.alloc w1 (.cells #[.int .i64 (6), .int .i64 (7), .int .i64 (8), .int .i64 (9), .int .i64 (3)] 37)) (w1.heap.size) 1 (.int .i64 (7)) := ⟨by simp [go_sem], by simp [go_sem]⟩
  replace A0_1 := At.below A0_1 hbw2
  have A0_2 : At (World.alloc w1 (.cells #[.int .i64 (6), .int .i64 (7), .int .i64 (8), .int .i64 (9), .int .i64 (3)] 37)) (w1.heap.size) 2 (.int .i64 (8)) := ⟨by simp [go_sem], by simp [go_sem]⟩
  replace A0_2 := At.below A0_2 hbw2
  have A0_3 : At (World.alloc w1 (.cells #[.int .i64 (6), .int .i64 (7), .int .i64 (8), .int .i64 (9), .int .i64 (3)] 37)) (w1.heap.size) 3 (.int .i64 (9)) := ⟨by simp [go_sem], by simp [go_sem]⟩
  replace A0_3 := At.below A0_3 hbw2
  have A0_4 : At (World.alloc w1 (.cells #[.int .i64 (6), .int .i64 (7), .int .i64 (8), .int .i64 (9), .int .i64 (3)] 37)) (w1.heap.size) 4 (.int .i64 (3)) := ⟨by simp [go_sem], by simp [go_sem]⟩
  replace A0_4 := At.below A0_4 hbw2
  replace B := below_step B B.size (below_alloc (hbw2))
  clear hbw2
  have F0_0 := A0_0.1; have G0_0 := A0_0.2
  have F0_1 := A0_1.1; have G0_1 := A0_1.2
  have F0_2 := A0_2.1; have G0_2 := A0_2.2
  have F0_3 := A0_3.1; have G0_3 := A0_3.2
  have F0_4 := A0_4.1; have G0_4 := A0_4.2
  have Z0 := A0_0.lt
  go_wp2_with (first | (go_at_call 39; (first | (with_reducible refine (OX.out _).mono ?_) | (with_reducible refine (OY.out _).mono ?_)); rintro e w' ⟨rfl, rfl⟩) | (go_at_call 19; refine (UP.out _).mono ?_; rintro e w' ⟨rfl, rfl⟩) | (go_at_call 20; (first | (with_reducible refine (DN.out _).mono ?_) | (with_reducible refine (DU.out _).mono ?_)); rintro e w' ⟨rfl, rfl⟩))
  refine (RU.out _).mono ?_
  rintro e w3 ⟨rfl, hbw3⟩
  clear F0_0 G0_0 F0_1 G0_1 F0_2 G0_2 F0_3 G0_3 F0_4 G0_4 Z0
  replace A0_0 := At.below (A0_0) hbw3
  replace A0_1 := At.below (A0_1) hbw3
  replace A0_2 := At.below (A0_2) hbw3
  replace A0_3 := At.below (A0_3) hbw3
  replace A0_4 := At.below (A0_4) hbw3
  replace B := below_step B B.size (hbw3)
  clear hbw3
  have F0_0 := A0_0.1; have G0_0 := A0_0.2
  have F0_1 := A0_1.1; have G0_1 := A0_1.2
  have F0_2 := A0_2.1; have G0_2 := A0_2.2
  have F0_3 := A0_3.1; have G0_3 := A0_3.2
  have F0_4 := A0_4.1; have G0_4 := A0_4.2
  have Z0 := A0_0.lt
  rcases q1 with rfl | ⟨rfl, rfl⟩ <;> rcases q2 with rfl | rfl
  all_goals (go_wp2_with (first | (go_at_call 39; (first | (with_reducible refine (OX.out _).mono ?_) | (with_reducible refine (OY.out _).mono ?_)); rintro e w' ⟨rfl, rfl⟩) | (go_at_call 19; refine (UP.out _).mono ?_; rintro e w' ⟨rfl, rfl⟩) | (go_at_call 20; (first | (with_reducible refine (DN.out _).mono ?_) | (with_reducible refine (DU.out _).mono ?_)); rintro e w' ⟨rfl, rfl⟩)))
  all_goals go_ret
  all_goals exact ⟨ret_b (by (first | rfl | (refine (decide_eq_true ?_).symm; omega) | (refine (decide_eq_false ?_).symm; omega) | (refine decide_eq_decide.2 ?_; omega) | (rw [Bool.eq_iff_iff]; simp only [Bool.and_eq_true, Bool.or_eq_true, Bool.not_eq_true, Bool.not_eq_eq_eq_not, Bool.not_true, Bool.not_false, decide_eq_true_eq, decide_eq_false_iff_not, Bool.false_eq_true, true_iff, false_iff] <;> omega))), B⟩

set_option maxHeartbeats 4000000 in
theorem tight_p3_nan (a b op : Int) (x y : Nat) (hb1 : -9223372036854775808 ≤ op) (hb2 : op ≤ 9223372036854775807) (hneg : ¬ op < 0) (ho : op.tmod 5 = 4)
    (hOX : ∀ w, Calls Try.prog 39 #[.int .u64 a] w fun e w' => e = .returned (.float .f64 x) ∧ w = w')
    (hOY : ∀ w, Calls Try.prog 39 #[.int .u64 b] w fun e w' => e = .returned (.float .f64 y) ∧ w = w')
    (hRD : ∀ w, Calls Try.prog 35 #[.int .i64 3, .float .f64 x, .float .f64 y, .bool false] w fun e w' => e = .returned (.float .f64 (NANW)) ∧ Below w.heap.size w w')
    (hRU : ∀ w, Calls Try.prog 35 #[.int .i64 3, .float .f64 x, .float .f64 y, .bool true] w fun e w' => e = .returned (.float .f64 (NANW)) ∧ Below w.heap.size w w') (w : World) :
    Calls Try.prog 10 #[.int .u64 a, .int .u64 b, .int .i64 op] w fun e w' => e = .returned (.bool true) ∧ Below w.heap.size w w' := by
  have AL := Lib.hid alive_any
  have nN := nan_NANW
  have OX := Lib.hid hOX
  have OY := Lib.hid hOY
  have RD := Lib.hid hRD
  have RU := Lib.hid hRU
  clear hOX hOY hRD hRU
  go_enter Try.func10, Try.ntmps10
  go_wp2_with fail
  refine (AL.out _).mono ?_
  rintro e w1 ⟨rfl, hbw1⟩
  have B := hbw1
  clear hbw1
  go_wp2_with (first | (go_at_call 39; (first | (with_reducible refine (OX.out _).mono ?_) | (with_reducible refine (OY.out _).mono ?_)); rintro e w' ⟨rfl, rfl⟩))
  refine (RD.out _).mono ?_
  rintro e w2 ⟨rfl, hbw2⟩
  have nB : w.heap.size ≤ w1.heap.size := B.size
  have A0_0 : At (World.alloc w1 (.cells #[.int .i64 (6), .int .i64 (7), .int .i64 (8), .int .i64 (9), .int .i64 (3)] 37)) (w1.heap.size) 0 (.int .i64 (6)) := ⟨by simp [go_sem], by simp [go_sem]⟩
  replace A0_0 := At.below A0_0 hbw2
  have A0_1 : At (World.alloc w1 (.cells #[.int .i64 (6), .int .i64 (7), .int .i64 (8), .int .i64 (9), .int .i64 (3)] 37)) (w1.heap.size) 1 (.int .i64 (7)) := ⟨by simp [go_sem], by simp [go_sem]⟩
  replace A0_1 := At.below A0_1 hbw2
  have A0_2 : At (World.alloc w1 (.cells #[.int .i64 (6), .int .i64 (7), .int .i64 (8), .int .i64 (9), .int .i64 (3)] 37)) (w1.heap.size) 2 (.int .i64 (8)) := ⟨by simp [go_sem], by simp [go_sem]⟩
  replace A0_2 := At.below A0_2 hbw2
  have A0_3 : At (World.alloc w1 (.cells #[.int .i64 (6), .int .i64 (7), .int .i64 (8), .int .i64 (9), .int .i64 (3)] 37)) (w1.heap.size) 3 (.int .i64 (9)) := ⟨by simp [go_sem], by simp [go_sem]⟩
  replace A0_3 := At.below A0_3 hbw2
  have A0_4 : At (World.alloc w1 (.cells #[.int .i64 (6), .int .i64 (7), .int .i64 (8), .int .i64 (9), .int .i64 (3)] 37)) (w1.heap.size) 4 (.int .i64 (3)) := ⟨by simp [go_sem], by simp [go_sem]⟩
  replace A0_4 := At.below A0_4 hbw2
  replace B := below_step B B.size (below_alloc (hbw2))
  clear hbw2
  have F0_0 := A0_0.1; have G0_0 := A0_0.2
  have F0_1 := A0_1.1; have G0_1 := A0_1.2
  have F0_2 := A0_2.1; have G0_2 := A0_2.2
  have F0_3 := A0_3.1; have G0_3 := A0_3.2
  have F0_4 := A0_4.1; have G0_4 := A0_4.2
  have Z0 := A0_0.lt
  go_wp2_with (first | (go_at_call 39; (first | (with_reducible refine (OX.out _).mono ?_) | (with_reducible refine (OY.out _).mono ?_)); rintro e w' ⟨rfl, rfl⟩))
  refine (RU.out _).mono ?_
  rintro e w3 ⟨rfl, hbw3⟩
  clear F0_0 G0_0 F0_1 G0_1 F0_2 G0_2 F0_3 G0_3 F0_4 G0_4 Z0
  replace A0_0 := At.below (A0_0) hbw3
  replace A0_1 := At.below (A0_1) hbw3
  replace A0_2 := At.below (A0_2) hbw3
  replace A0_3 := At.below (A0_3) hbw3
  replace A0_4 := At.below (A0_4) hbw3
  replace B := below_step B B.size (hbw3)
  clear hbw3
  have F0_0 := A0_0.1; have G0_0 := A0_0.2
  have F0_1 := A0_1.1; have G0_1 := A0_1.2
  have F0_2 := A0_2.1; have G0_2 := A0_2.2
  have F0_3 := A0_3.1; have G0_3 := A0_3.2
  have F0_4 := A0_4.1; have G0_4 := A0_4.2
  have Z0 := A0_0.lt
  go_wp2_with fail
  go_ret
  exact ⟨rfl, B⟩

set_option maxHeartbeats 4000000 in
theorem tight_p3_num (a b op : Int) (x y : Nat) (hb1 : -9223372036854775808 ≤ op) (hb2 : op ≤ 9223372036854775807) (hneg : ¬ op < 0) (ho : op.tmod 5 = 4) (L H U D N : Int) (rL : Rg L) (rH : Rg H) (rU : Rg U) (rD : Rg D) (rN : Rg N) (q1 : L = H ∨ (U = H ∧ D = L)) (q2 : N = L ∨ L = U)
    (hOX : ∀ w, Calls Try.prog 39 #[.int .u64 a] w fun e w' => e = .returned (.float .f64 x) ∧ w = w')
    (hOY : ∀ w, Calls Try.prog 39 #[.int .u64 b] w fun e w' => e = .returned (.float .f64 y) ∧ w = w')
    (hRD : ∀ w, Calls Try.prog 35 #[.int .i64 3, .float .f64 x, .float .f64 y, .bool false] w fun e w' => e = .returned (.float .f64 (ofKey L)) ∧ Below w.heap.size w w')
    (hRU : ∀ w, Calls Try.prog 35 #[.int .i64 3, .float .f64 x, .float .f64 y, .bool true] w fun e w' => e = .returned (.float .f64 (ofKey H)) ∧ Below w.heap.size w w')
    (hUP : ∀ w, Calls Try.prog 19 #[.float .f64 (ofKey L)] w fun e w' => e = .returned (.float .f64 (ofKey U)) ∧ w = w')
    (hDN : ∀ w, Calls Try.prog 20 #[.float .f64 (ofKey H)] w fun e w' => e = .returned (.float .f64 (ofKey D)) ∧ w = w')
    (hDU : ∀ w, Calls Try.prog 20 #[.float .f64 (ofKey U)] w fun e w' => e = .returned (.float .f64 (ofKey N)) ∧ w = w') (w : World) :
    Calls Try.prog 10 #[.int .u64 a, .int .u64 b, .int .i64 op] w fun e w' => e = .returned (.bool true) ∧ Below w.heap.size w w' := by
  have AL := Lib.hid alive_any
  have nN := nan_NANW
  have OX := Lib.hid hOX
  have OY := Lib.hid hOY
  have RD := Lib.hid hRD
  have RU := Lib.hid hRU
  have UP := Lib.hid hUP
  have DN := Lib.hid hDN
  have DU := Lib.hid hDU
  clear hOX hOY hRD hRU hUP hDN hDU
  go_enter Try.func10, Try.ntmps10
  go_wp2_with fail
  refine (AL.out _).mono ?_
  rintro e w1 ⟨rfl, hbw1⟩
  have B := hbw1
  clear hbw1
  go_wp2_with (first | (go_at_call 39; (first | (with_reducible refine (OX.out _).mono ?_) | (with_reducible refine (OY.out _).mono ?_)); rintro e w' ⟨rfl, rfl⟩) | (go_at_call 19; refine (UP.out _).mono ?_; rintro e w' ⟨rfl, rfl⟩) | (go_at_call 20; (first | (with_reducible refine (DN.out _).mono ?_) | (with_reducible refine (DU.out _).mono ?_)); rintro e w' ⟨rfl, rfl⟩))
  refine (RD.out _).mono ?_
  rintro e w2 ⟨rfl, hbw2⟩
  have nB : w.heap.size ≤ w1.heap.size := B.size
  have A0_0 : At (World.alloc w1 (.cells #[.int .i64 (6), .int .i64 (7), .int .i64 (8), .int .i64 (9), .int .i64 (3)] 37)) (w1.heap.size) 0 (.int .i64 (6)) := ⟨by simp [go_sem], by simp [go_sem]⟩
  replace A0_0 := At.below A0_0 hbw2
  have A0_1 : At (World.alloc w1 (.cells #[.int .i64 (6), .int .i64 (7), .int .i64 (8), .int .i64 (9), .int .i64 (3)] 37)) (w1.heap.size) 1 (.int .i64 (7)) := ⟨by simp [go_sem], by simp [go_sem]⟩
  replace A0_1 := At.below A0_1 hbw2
  have A0_2 : At (World.alloc w1 (.cells #[.int .i64 (6), .int .i64 (7), .int .i64 (8), .int .i64 (9), .int .i64 (3)] 37)) (w1.heap.size) 2 (.int .i64 (8)) := ⟨by simp [go_sem], by simp [go_sem]⟩
  replace A0_2 := At.below A0_2 hbw2
  have A0_3 : At (World.alloc w1 (.cells #[.int .i64 (6), .int .i64 (7), .int .i64 (8), .int .i64 (9), .int .i64 (3)] 37)) (w1.heap.size) 3 (.int .i64 (9)) := ⟨by simp [go_sem], by simp [go_sem]⟩
  replace A0_3 := At.below A0_3 hbw2
  have A0_4 : At (World.alloc w1 (.cells #[.int .i64 (6), .int .i64 (7), .int .i64 (8), .int .i64 (9), .int .i64 (3)] 37)) (w1.heap.size) 4 (.int .i64 (3)) := ⟨by simp [go_sem], by simp [go_sem]⟩
  replace A0_4 := At.below A0_4 hbw2
  replace B := below_step B B.size (below_alloc (hbw2))
  clear hbw2
  have F0_0 := A0_0.1; have G0_0 := A0_0.2
  have F0_1 := A0_1.1; have G0_1 := A0_1.2
  have F0_2 := A0_2.1; have G0_2 := A0_2.2
  have F0_3 := A0_3.1; have G0_3 := A0_3.2
  have F0_4 := A0_4.1; have G0_4 := A0_4.2
  have Z0 := A0_0.lt
  go_wp2_with (first | (go_at_call 39; (first | (with_reducible refine (OX.out _).mono ?_) | (with_reducible refine (OY.out _).mono ?_)); rintro e w' ⟨rfl, rfl⟩) | (go_at_call 19; refine (UP.out _).mono ?_; rintro e w' ⟨rfl, rfl⟩) | (go_at_call 20; (first | (with_reducible refine (DN.out _).mono ?_) | (with_reducible refine (DU.out _).mono ?_)); rintro e w' ⟨rfl, rfl⟩))
  refine (RU.out _).mono ?_
  rintro e w3 ⟨rfl, hbw3⟩
  clear F0_0 G0_0 F0_1 G0_1 F0_2 G0_2 F0_3 G0_3 F0_4 G0_4 Z0
  replace A0_0 := At.below (A0_0) hbw3
  replace A0_1 := At.below (A0_1) hbw3
  replace A0_2 := At.below (A0_2) hbw3
  replace A0_3 := At.below (A0_3) hbw3
  replace A0_4 := At.below (A0_4) hbw3
  replace B := below_step B B.size (hbw3)
  clear hbw3
  have F0_0 := A0_0.1; have G0_0 := A0_0.2
  have F0_1 := A0_1.1; have G0_1 := A0_1.2
  have F0_2 := A0_2.1; have G0_2 := A0_2.2
  have F0_3 := A0_3.1; have G0_3 := A0_3.2
  have F0_4 := A0_4.1; have G0_4 := A0_4.2
  have Z0 := A0_0.lt
  rcases q1 with rfl | ⟨rfl, rfl⟩ <;> rcases q2 with rfl | rfl
  all_goals (go_wp2_with (first | (go_at_call 39; (first | (with_reducible refine (OX.out _).mono ?_) | (with_reducible refine (OY.out _).mono ?_)); rintro e w' ⟨rfl, rfl⟩) | (go_at_call 19; refine (UP.out _).mono ?_; rintro e w' ⟨rfl, rfl⟩) | (go_at_call 20; (first | (with_reducible refine (DN.out _).mono ?_) | (with_reducible refine (DU.out _).mono ?_)); rintro e w' ⟨rfl, rfl⟩)))
  all_goals go_ret
  all_goals exact ⟨ret_b (by (first | rfl | (refine (decide_eq_true ?_).symm; omega) | (refine (decide_eq_false ?_).symm; omega) | (refine decide_eq_decide.2 ?_; omega) | (rw [Bool.eq_iff_iff]; simp only [Bool.and_eq_true, Bool.or_eq_true, Bool.not_eq_true, Bool.not_eq_eq_eq_not, Bool.not_true, Bool.not_false, decide_eq_true_eq, decide_eq_false_iff_not, Bool.false_eq_true, true_iff, false_iff] <;> omega))), B⟩


end Go.Proofs.Yteephgpefhodnaa
