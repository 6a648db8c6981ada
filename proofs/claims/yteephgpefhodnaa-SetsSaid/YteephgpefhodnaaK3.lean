/- The walk of Sets. -/
import Derived.Test.YteephgpefhodnaaK2
namespace Go.Proofs.Yteephgpefhodnaa
open Go.RowKit Go.Sort Go.Fl
set_option linter.unusedSimpArgs false
set_option linter.unusedVariables false

set_option maxHeartbeats 4000000 in
theorem sets_walk (a b c d : Int) (A Bh C D M N H K : Int) (rA : Rg A) (rB : Rg Bh) (rC : Rg C) (rD : Rg D) (rM : Rg M) (rN : Rg N) (rH : Rg H) (rK : Rg K) (t u i k l : Bool) (hit : (i && !t) = false) (hkl : (k && !l) = false)
    (hSX : ∀ w, Calls Try.prog 25 #[.int .u64 a, .int .u64 b] w fun e w' => e = .returned (.agg #[.float .f64 (ofKey (A)), .float .f64 (ofKey (Bh))]) ∧ Below w.heap.size w w')
    (hSZ : ∀ w, Calls Try.prog 25 #[.int .u64 c, .int .u64 d] w fun e w' => e = .returned (.agg #[.float .f64 (ofKey (C)), .float .f64 (ofKey (D))]) ∧ Below w.heap.size w w')
    (hME : ∀ w, Calls Try.prog 31 #[.agg #[.float .f64 (ofKey (A)), .float .f64 (ofKey (Bh))], .agg #[.float .f64 (ofKey (C)), .float .f64 (ofKey (D))]] w fun e w' => e = .returned (.agg #[.float .f64 (ofKey (M)), .float .f64 (ofKey (N))]) ∧ Below w.heap.size w w')
    (hHU : ∀ w, Calls Try.prog 33 #[.agg #[.float .f64 (ofKey (A)), .float .f64 (ofKey (Bh))], .agg #[.float .f64 (ofKey (C)), .float .f64 (ofKey (D))]] w fun e w' => e = .returned (.agg #[.float .f64 (ofKey (H)), .float .f64 (ofKey (K))]) ∧ Below w.heap.size w w')
    (hI0 : ∀ w, Calls Try.prog 29 #[.int .i64 1, .agg #[.float .f64 (ofKey (M)), .float .f64 (ofKey (N))], .agg #[.float .f64 (ofKey (A)), .float .f64 (ofKey (Bh))]] w fun e w' => e = .returned (.bool (true)) ∧ Below w.heap.size w w')
    (hI1 : ∀ w, Calls Try.prog 29 #[.int .i64 1, .agg #[.float .f64 (ofKey (M)), .float .f64 (ofKey (N))], .agg #[.float .f64 (ofKey (C)), .float .f64 (ofKey (D))]] w fun e w' => e = .returned (.bool (true)) ∧ Below w.heap.size w w')
    (hI2 : ∀ w, Calls Try.prog 29 #[.int .i64 1, .agg #[.float .f64 (ofKey (A)), .float .f64 (ofKey (Bh))], .agg #[.float .f64 (ofKey (H)), .float .f64 (ofKey (K))]] w fun e w' => e = .returned (.bool (true)) ∧ Below w.heap.size w w')
    (hI3 : ∀ w, Calls Try.prog 29 #[.int .i64 1, .agg #[.float .f64 (ofKey (C)), .float .f64 (ofKey (D))], .agg #[.float .f64 (ofKey (H)), .float .f64 (ofKey (K))]] w fun e w' => e = .returned (.bool (true)) ∧ Below w.heap.size w w')
    (hI4 : ∀ w, Calls Try.prog 29 #[.int .i64 1, .agg #[.float .f64 (ofKey (A)), .float .f64 (ofKey (Bh))], .agg #[.float .f64 (ofKey (C)), .float .f64 (ofKey (D))]] w fun e w' => e = .returned (.bool (t)) ∧ Below w.heap.size w w')
    (hI5 : ∀ w, Calls Try.prog 29 #[.int .i64 0, .agg #[.float .f64 (ofKey (M)), .float .f64 (ofKey (N))], .agg #[.float .f64 (ofKey (A)), .float .f64 (ofKey (Bh))]] w fun e w' => e = .returned (.bool (t)) ∧ Below w.heap.size w w')
    (hI6 : ∀ w, Calls Try.prog 29 #[.int .i64 1, .agg #[.float .f64 (ofKey (C)), .float .f64 (ofKey (D))], .agg #[.float .f64 (ofKey (A)), .float .f64 (ofKey (Bh))]] w fun e w' => e = .returned (.bool (u)) ∧ Below w.heap.size w w')
    (hI7 : ∀ w, Calls Try.prog 29 #[.int .i64 0, .agg #[.float .f64 (ofKey (A)), .float .f64 (ofKey (Bh))], .agg #[.float .f64 (ofKey (C)), .float .f64 (ofKey (D))]] w fun e w' => e = .returned (.bool (t && u)) ∧ Below w.heap.size w w')
    (hI8 : ∀ w, Calls Try.prog 29 #[.int .i64 3, .agg #[.float .f64 (ofKey (A)), .float .f64 (ofKey (Bh))], .agg #[.float .f64 (ofKey (C)), .float .f64 (ofKey (D))]] w fun e w' => e = .returned (.bool (decide (N < M))) ∧ Below w.heap.size w w')
    (hI9 : ∀ w, Calls Try.prog 29 #[.int .i64 2, .agg #[.float .f64 (ofKey (A)), .float .f64 (ofKey (Bh))], .agg #[.float .f64 (ofKey (C)), .float .f64 (ofKey (D))]] w fun e w' => e = .returned (.bool (i)) ∧ Below w.heap.size w w')
    (hI10 : ∀ w, Calls Try.prog 29 #[.int .i64 5, .agg #[.float .f64 (ofKey (A)), .float .f64 (ofKey (Bh))], .agg #[.float .f64 (ofKey (C)), .float .f64 (ofKey (D))]] w fun e w' => e = .returned (.bool (k)) ∧ Below w.heap.size w w')
    (hI11 : ∀ w, Calls Try.prog 29 #[.int .i64 4, .agg #[.float .f64 (ofKey (A)), .float .f64 (ofKey (Bh))], .agg #[.float .f64 (ofKey (C)), .float .f64 (ofKey (D))]] w fun e w' => e = .returned (.bool (l)) ∧ Below w.heap.size w w') (w : World) :
    Calls Try.prog 13 #[.int .u64 a, .int .u64 b, .int .u64 c, .int .u64 d] w fun e w' => e = .returned (.bool true) ∧ Below w.heap.size w w' := by
  have AL := Lib.hid alive_any
  have SX := Lib.hid hSX
  have SZ := Lib.hid hSZ
  have ME := Lib.hid hME
  have HU := Lib.hid hHU
  have I0 := Lib.hid hI0
  have I1 := Lib.hid hI1
  have I2 := Lib.hid hI2
  have I3 := Lib.hid hI3
  have I4 := Lib.hid hI4
  have I5 := Lib.hid hI5
  have I6 := Lib.hid hI6
  have I7 := Lib.hid hI7
  have I8 := Lib.hid hI8
  have I9 := Lib.hid hI9
  have I10 := Lib.hid hI10
  have I11 := Lib.hid hI11
  clear hSX hSZ hME hHU hI0 hI1 hI2 hI3 hI4 hI5 hI6 hI7 hI8 hI9 hI10 hI11
  go_enter Try.func13, Try.ntmps13
  go_wp2_with fail
  refine (AL.out _).mono ?_
  rintro e w1 ⟨rfl, hbw1⟩
  have B := hbw1
  clear hbw1
  go_wp2_with fail
  refine (SX.out _).mono ?_
  rintro e w2 ⟨rfl, hbw2⟩
  replace B := below_step B B.size (hbw2)
  clear hbw2
  go_wp2_with fail
  refine (SZ.out _).mono ?_
  rintro e w3 ⟨rfl, hbw3⟩
  have A0_0 : At (World.alloc w2 (.cells #[.float .f64 (ofKey (A)), .float .f64 (ofKey (Bh))] 28)) (w2.heap.size) 0 (.float .f64 (ofKey (A))) := ⟨by simp [go_sem], by simp [go_sem]⟩
  replace A0_0 := At.below A0_0 hbw3
  have A0_1 : At (World.alloc w2 (.cells #[.float .f64 (ofKey (A)), .float .f64 (ofKey (Bh))] 28)) (w2.heap.size) 1 (.float .f64 (ofKey (Bh))) := ⟨by simp [go_sem], by simp [go_sem]⟩
  replace A0_1 := At.below A0_1 hbw3
  replace B := below_step B B.size (below_alloc (hbw3))
  clear hbw3
  have F0_0 := A0_0.1; have G0_0 := A0_0.2
  have F0_1 := A0_1.1; have G0_1 := A0_1.2
  have Z0 := A0_0.lt
  go_wp2_with fail
  refine (ME.out _).mono ?_
  rintro e w4 ⟨rfl, hbw4⟩
  clear F0_0 G0_0 F0_1 G0_1 Z0
  replace A0_0 := At.below (At.alloc (A0_0)) hbw4
  replace A0_1 := At.below (At.alloc (A0_1)) hbw4
  have A1_0 : At (World.alloc w3 (.cells #[.float .f64 (ofKey (C)), .float .f64 (ofKey (D))] 28)) (w3.heap.size) 0 (.float .f64 (ofKey (C))) := ⟨by simp [go_sem], by simp [go_sem]⟩
  replace A1_0 := At.below A1_0 hbw4
  have A1_1 : At (World.alloc w3 (.cells #[.float .f64 (ofKey (C)), .float .f64 (ofKey (D))] 28)) (w3.heap.size) 1 (.float .f64 (ofKey (D))) := ⟨by simp [go_sem], by simp [go_sem]⟩
  replace A1_1 := At.below A1_1 hbw4
  replace B := below_step B B.size (below_alloc (hbw4))
  clear hbw4
  have F0_0 := A0_0.1; have G0_0 := A0_0.2
  have F0_1 := A0_1.1; have G0_1 := A0_1.2
  have F1_0 := A1_0.1; have G1_0 := A1_0.2
  have F1_1 := A1_1.1; have G1_1 := A1_1.2
  have Z0 := A0_0.lt
  have Z1 := A1_0.lt
  go_wp2_with fail
  refine (HU.out _).mono ?_
  rintro e w5 ⟨rfl, hbw5⟩
  clear F0_0 G0_0 F0_1 G0_1 F1_0 G1_0 F1_1 G1_1 Z0 Z1
  replace A0_0 := At.below (At.alloc (A0_0)) hbw5
  replace A0_1 := At.below (At.alloc (A0_1)) hbw5
  replace A1_0 := At.below (At.alloc (A1_0)) hbw5
  replace A1_1 := At.below (At.alloc (A1_1)) hbw5
  have A2_0 : At (World.alloc w4 (.cells #[.float .f64 (ofKey (M)), .float .f64 (ofKey (N))] 28)) (w4.heap.size) 0 (.float .f64 (ofKey (M))) := ⟨by simp [go_sem], by simp [go_sem]⟩
  replace A2_0 := At.below A2_0 hbw5
  have A2_1 : At (World.alloc w4 (.cells #[.float .f64 (ofKey (M)), .float .f64 (ofKey (N))] 28)) (w4.heap.size) 1 (.float .f64 (ofKey (N))) := ⟨by simp [go_sem], by simp [go_sem]⟩
  replace A2_1 := At.below A2_1 hbw5
  replace B := below_step B B.size (below_alloc (hbw5))
  clear hbw5
  have F0_0 := A0_0.1; have G0_0 := A0_0.2
  have F0_1 := A0_1.1; have G0_1 := A0_1.2
  have F1_0 := A1_0.1; have G1_0 := A1_0.2
  have F1_1 := A1_1.1; have G1_1 := A1_1.2
  have F2_0 := A2_0.1; have G2_0 := A2_0.2
  have F2_1 := A2_1.1; have G2_1 := A2_1.2
  have Z0 := A0_0.lt
  have Z1 := A1_0.lt
  have Z2 := A2_0.lt
  go_wp2_with fail
  refine (I0.out _).mono ?_
  rintro e w6 ⟨rfl, hbw6⟩
  clear F0_0 G0_0 F0_1 G0_1 F1_0 G1_0 F1_1 G1_1 F2_0 G2_0 F2_1 G2_1 Z0 Z1 Z2
  replace A0_0 := At.below (At.alloc (A0_0)) hbw6
  replace A0_1 := At.below (At.alloc (A0_1)) hbw6
  replace A1_0 := At.below (At.alloc (A1_0)) hbw6
  replace A1_1 := At.below (At.alloc (A1_1)) hbw6
  replace A2_0 := At.below (At.alloc (A2_0)) hbw6
  replace A2_1 := At.below (At.alloc (A2_1)) hbw6
  have A3_0 : At (World.alloc w5 (.cells #[.float .f64 (ofKey (H)), .float .f64 (ofKey (K))] 28)) (w5.heap.size) 0 (.float .f64 (ofKey (H))) := ⟨by simp [go_sem], by simp [go_sem]⟩
  replace A3_0 := At.below A3_0 hbw6
  have A3_1 : At (World.alloc w5 (.cells #[.float .f64 (ofKey (H)), .float .f64 (ofKey (K))] 28)) (w5.heap.size) 1 (.float .f64 (ofKey (K))) := ⟨by simp [go_sem], by simp [go_sem]⟩
  replace A3_1 := At.below A3_1 hbw6
  replace B := below_step B B.size (below_alloc (hbw6))
  clear hbw6
  have F0_0 := A0_0.1; have G0_0 := A0_0.2
  have F0_1 := A0_1.1; have G0_1 := A0_1.2
  have F1_0 := A1_0.1; have G1_0 := A1_0.2
  have F1_1 := A1_1.1; have G1_1 := A1_1.2
  have F2_0 := A2_0.1; have G2_0 := A2_0.2
  have F2_1 := A2_1.1; have G2_1 := A2_1.2
  have F3_0 := A3_0.1; have G3_0 := A3_0.2
  have F3_1 := A3_1.1; have G3_1 := A3_1.2
  have Z0 := A0_0.lt
  have Z1 := A1_0.lt
  have Z2 := A2_0.lt
  have Z3 := A3_0.lt
  go_wp2_with fail
  refine (I1.out _).mono ?_
  rintro e w7 ⟨rfl, hbw7⟩
  clear F0_0 G0_0 F0_1 G0_1 F1_0 G1_0 F1_1 G1_1 F2_0 G2_0 F2_1 G2_1 F3_0 G3_0 F3_1 G3_1 Z0 Z1 Z2 Z3
  replace A0_0 := At.below (A0_0) hbw7
  replace A0_1 := At.below (A0_1) hbw7
  replace A1_0 := At.below (A1_0) hbw7
  replace A1_1 := At.below (A1_1) hbw7
  replace A2_0 := At.below (A2_0) hbw7
  replace A2_1 := At.below (A2_1) hbw7
  replace A3_0 := At.below (A3_0) hbw7
  replace A3_1 := At.below (A3_1) hbw7
  replace B := below_step B B.size (hbw7)
  clear hbw7
  have F0_0 := A0_0.1; have G0_0 := A0_0.2
  have F0_1 := A0_1.1; have G0_1 := A0_1.2
  have F1_0 := A1_0.1; have G1_0 := A1_0.2
  have F1_1 := A1_1.1; have G1_1 := A1_1.2
  have F2_0 := A2_0.1; have G2_0 := A2_0.2
  have F2_1 := A2_1.1; have G2_1 := A2_1.2
  have F3_0 := A3_0.1; have G3_0 := A3_0.2
  have F3_1 := A3_1.1; have G3_1 := A3_1.2
  have Z0 := A0_0.lt
  have Z1 := A1_0.lt
  have Z2 := A2_0.lt
  have Z3 := A3_0.lt
  go_wp2_with fail
  refine (I2.out _).mono ?_
  rintro e w8 ⟨rfl, hbw8⟩
  clear F0_0 G0_0 F0_1 G0_1 F1_0 G1_0 F1_1 G1_1 F2_0 G2_0 F2_1 G2_1 F3_0 G3_0 F3_1 G3_1 Z0 Z1 Z2 Z3
  replace A0_0 := At.below (A0_0) hbw8
  replace A0_1 := At.below (A0_1) hbw8
  replace A1_0 := At.below (A1_0) hbw8
  replace A1_1 := At.below (A1_1) hbw8
  replace A2_0 := At.below (A2_0) hbw8
  replace A2_1 := At.below (A2_1) hbw8
  replace A3_0 := At.below (A3_0) hbw8
  replace A3_1 := At.below (A3_1) hbw8
  replace B := below_step B B.size (hbw8)
  clear hbw8
  have F0_0 := A0_0.1; have G0_0 := A0_0.2
  have F0_1 := A0_1.1; have G0_1 := A0_1.2
  have F1_0 := A1_0.1; have G1_0 := A1_0.2
  have F1_1 := A1_1.1; have G1_1 := A1_1.2
  have F2_0 := A2_0.1; have G2_0 := A2_0.2
  have F2_1 := A2_1.1; have G2_1 := A2_1.2
  have F3_0 := A3_0.1; have G3_0 := A3_0.2
  have F3_1 := A3_1.1; have G3_1 := A3_1.2
  have Z0 := A0_0.lt
  have Z1 := A1_0.lt
  have Z2 := A2_0.lt
  have Z3 := A3_0.lt
  go_wp2_with fail
  refine (I3.out _).mono ?_
  rintro e w9 ⟨rfl, hbw9⟩
  clear F0_0 G0_0 F0_1 G0_1 F1_0 G1_0 F1_1 G1_1 F2_0 G2_0 F2_1 G2_1 F3_0 G3_0 F3_1 G3_1 Z0 Z1 Z2 Z3
  replace A0_0 := At.below (A0_0) hbw9
  replace A0_1 := At.below (A0_1) hbw9
  replace A1_0 := At.below (A1_0) hbw9
  replace A1_1 := At.below (A1_1) hbw9
  replace A2_0 := At.below (A2_0) hbw9
  replace A2_1 := At.below (A2_1) hbw9
  replace A3_0 := At.below (A3_0) hbw9
  replace A3_1 := At.below (A3_1) hbw9
  replace B := below_step B B.size (hbw9)
  clear hbw9
  have F0_0 := A0_0.1; have G0_0 := A0_0.2
  have F0_1 := A0_1.1; have G0_1 := A0_1.2
  have F1_0 := A1_0.1; have G1_0 := A1_0.2
  have F1_1 := A1_1.1; have G1_1 := A1_1.2
  have F2_0 := A2_0.1; have G2_0 := A2_0.2
  have F2_1 := A2_1.1; have G2_1 := A2_1.2
  have F3_0 := A3_0.1; have G3_0 := A3_0.2
  have F3_1 := A3_1.1; have G3_1 := A3_1.2
  have Z0 := A0_0.lt
  have Z1 := A1_0.lt
  have Z2 := A2_0.lt
  have Z3 := A3_0.lt
  go_wp2_with fail
  refine (I4.out _).mono ?_
  rintro e w10 ⟨rfl, hbw10⟩
  clear F0_0 G0_0 F0_1 G0_1 F1_0 G1_0 F1_1 G1_1 F2_0 G2_0 F2_1 G2_1 F3_0 G3_0 F3_1 G3_1 Z0 Z1 Z2 Z3
  replace A0_0 := At.below (A0_0) hbw10
  replace A0_1 := At.below (A0_1) hbw10
  replace A1_0 := At.below (A1_0) hbw10
  replace A1_1 := At.below (A1_1) hbw10
  replace A2_0 := At.below (A2_0) hbw10
  replace A2_1 := At.below (A2_1) hbw10
  replace A3_0 := At.below (A3_0) hbw10
  replace A3_1 := At.below (A3_1) hbw10
  replace B := below_step B B.size (hbw10)
  clear hbw10
  have F0_0 := A0_0.1; have G0_0 := A0_0.2
  have F0_1 := A0_1.1; have G0_1 := A0_1.2
  have F1_0 := A1_0.1; have G1_0 := A1_0.2
  have F1_1 := A1_1.1; have G1_1 := A1_1.2
  have F2_0 := A2_0.1; have G2_0 := A2_0.2
  have F2_1 := A2_1.1; have G2_1 := A2_1.2
  have F3_0 := A3_0.1; have G3_0 := A3_0.2
  have F3_1 := A3_1.1; have G3_1 := A3_1.2
  have Z0 := A0_0.lt
  have Z1 := A1_0.lt
  have Z2 := A2_0.lt
  have Z3 := A3_0.lt
  go_wp2_with fail
  refine (I5.out _).mono ?_
  rintro e w11 ⟨rfl, hbw11⟩
  clear F0_0 G0_0 F0_1 G0_1 F1_0 G1_0 F1_1 G1_1 F2_0 G2_0 F2_1 G2_1 F3_0 G3_0 F3_1 G3_1 Z0 Z1 Z2 Z3
  replace A0_0 := At.below (A0_0) hbw11
  replace A0_1 := At.below (A0_1) hbw11
  replace A1_0 := At.below (A1_0) hbw11
  replace A1_1 := At.below (A1_1) hbw11
  replace A2_0 := At.below (A2_0) hbw11
  replace A2_1 := At.below (A2_1) hbw11
  replace A3_0 := At.below (A3_0) hbw11
  replace A3_1 := At.below (A3_1) hbw11
  replace B := below_step B B.size (hbw11)
  clear hbw11
  have F0_0 := A0_0.1; have G0_0 := A0_0.2
  have F0_1 := A0_1.1; have G0_1 := A0_1.2
  have F1_0 := A1_0.1; have G1_0 := A1_0.2
  have F1_1 := A1_1.1; have G1_1 := A1_1.2
  have F2_0 := A2_0.1; have G2_0 := A2_0.2
  have F2_1 := A2_1.1; have G2_1 := A2_1.2
  have F3_0 := A3_0.1; have G3_0 := A3_0.2
  have F3_1 := A3_1.1; have G3_1 := A3_1.2
  have Z0 := A0_0.lt
  have Z1 := A1_0.lt
  have Z2 := A2_0.lt
  have Z3 := A3_0.lt
  go_wp2_with fail
  refine (I6.out _).mono ?_
  rintro e w12 ⟨rfl, hbw12⟩
  clear F0_0 G0_0 F0_1 G0_1 F1_0 G1_0 F1_1 G1_1 F2_0 G2_0 F2_1 G2_1 F3_0 G3_0 F3_1 G3_1 Z0 Z1 Z2 Z3
  replace A0_0 := At.below (A0_0) hbw12
  replace A0_1 := At.below (A0_1) hbw12
  replace A1_0 := At.below (A1_0) hbw12
  replace A1_1 := At.below (A1_1) hbw12
  replace A2_0 := At.below (A2_0) hbw12
  replace A2_1 := At.below (A2_1) hbw12
  replace A3_0 := At.below (A3_0) hbw12
  replace A3_1 := At.below (A3_1) hbw12
  replace B := below_step B B.size (hbw12)
  clear hbw12
  have F0_0 := A0_0.1; have G0_0 := A0_0.2
  have F0_1 := A0_1.1; have G0_1 := A0_1.2
  have F1_0 := A1_0.1; have G1_0 := A1_0.2
  have F1_1 := A1_1.1; have G1_1 := A1_1.2
  have F2_0 := A2_0.1; have G2_0 := A2_0.2
  have F2_1 := A2_1.1; have G2_1 := A2_1.2
  have F3_0 := A3_0.1; have G3_0 := A3_0.2
  have F3_1 := A3_1.1; have G3_1 := A3_1.2
  have Z0 := A0_0.lt
  have Z1 := A1_0.lt
  have Z2 := A2_0.lt
  have Z3 := A3_0.lt
  go_wp2_with fail
  refine (I7.out _).mono ?_
  rintro e w13 ⟨rfl, hbw13⟩
  clear F0_0 G0_0 F0_1 G0_1 F1_0 G1_0 F1_1 G1_1 F2_0 G2_0 F2_1 G2_1 F3_0 G3_0 F3_1 G3_1 Z0 Z1 Z2 Z3
  replace A0_0 := At.below (A0_0) hbw13
  replace A0_1 := At.below (A0_1) hbw13
  replace A1_0 := At.below (A1_0) hbw13
  replace A1_1 := At.below (A1_1) hbw13
  replace A2_0 := At.below (A2_0) hbw13
  replace A2_1 := At.below (A2_1) hbw13
  replace A3_0 := At.below (A3_0) hbw13
  replace A3_1 := At.below (A3_1) hbw13
  replace B := below_step B B.size (hbw13)
  clear hbw13
  have F0_0 := A0_0.1; have G0_0 := A0_0.2
  have F0_1 := A0_1.1; have G0_1 := A0_1.2
  have F1_0 := A1_0.1; have G1_0 := A1_0.2
  have F1_1 := A1_1.1; have G1_1 := A1_1.2
  have F2_0 := A2_0.1; have G2_0 := A2_0.2
  have F2_1 := A2_1.1; have G2_1 := A2_1.2
  have F3_0 := A3_0.1; have G3_0 := A3_0.2
  have F3_1 := A3_1.1; have G3_1 := A3_1.2
  have Z0 := A0_0.lt
  have Z1 := A1_0.lt
  have Z2 := A2_0.lt
  have Z3 := A3_0.lt
  go_wp2_with fail
  refine (I8.out _).mono ?_
  rintro e w14 ⟨rfl, hbw14⟩
  clear F0_0 G0_0 F0_1 G0_1 F1_0 G1_0 F1_1 G1_1 F2_0 G2_0 F2_1 G2_1 F3_0 G3_0 F3_1 G3_1 Z0 Z1 Z2 Z3
  replace A0_0 := At.below (A0_0) hbw14
  replace A0_1 := At.below (A0_1) hbw14
  replace A1_0 := At.below (A1_0) hbw14
  replace A1_1 := At.below (A1_1) hbw14
  replace A2_0 := At.below (A2_0) hbw14
  replace A2_1 := At.below (A2_1) hbw14
  replace A3_0 := At.below (A3_0) hbw14
  replace A3_1 := At.below (A3_1) hbw14
  replace B := below_step B B.size (hbw14)
  clear hbw14
  have F0_0 := A0_0.1; have G0_0 := A0_0.2
  have F0_1 := A0_1.1; have G0_1 := A0_1.2
  have F1_0 := A1_0.1; have G1_0 := A1_0.2
  have F1_1 := A1_1.1; have G1_1 := A1_1.2
  have F2_0 := A2_0.1; have G2_0 := A2_0.2
  have F2_1 := A2_1.1; have G2_1 := A2_1.2
  have F3_0 := A3_0.1; have G3_0 := A3_0.2
  have F3_1 := A3_1.1; have G3_1 := A3_1.2
  have Z0 := A0_0.lt
  have Z1 := A1_0.lt
  have Z2 := A2_0.lt
  have Z3 := A3_0.lt
  go_wp2_with fail
  refine (I9.out _).mono ?_
  rintro e w15 ⟨rfl, hbw15⟩
  clear F0_0 G0_0 F0_1 G0_1 F1_0 G1_0 F1_1 G1_1 F2_0 G2_0 F2_1 G2_1 F3_0 G3_0 F3_1 G3_1 Z0 Z1 Z2 Z3
  replace A0_0 := At.below (A0_0) hbw15
  replace A0_1 := At.below (A0_1) hbw15
  replace A1_0 := At.below (A1_0) hbw15
  replace A1_1 := At.below (A1_1) hbw15
  replace A2_0 := At.below (A2_0) hbw15
  replace A2_1 := At.below (A2_1) hbw15
  replace A3_0 := At.below (A3_0) hbw15
  replace A3_1 := At.below (A3_1) hbw15
  replace B := below_step B B.size (hbw15)
  clear hbw15
  have F0_0 := A0_0.1; have G0_0 := A0_0.2
  have F0_1 := A0_1.1; have G0_1 := A0_1.2
  have F1_0 := A1_0.1; have G1_0 := A1_0.2
  have F1_1 := A1_1.1; have G1_1 := A1_1.2
  have F2_0 := A2_0.1; have G2_0 := A2_0.2
  have F2_1 := A2_1.1; have G2_1 := A2_1.2
  have F3_0 := A3_0.1; have G3_0 := A3_0.2
  have F3_1 := A3_1.1; have G3_1 := A3_1.2
  have Z0 := A0_0.lt
  have Z1 := A1_0.lt
  have Z2 := A2_0.lt
  have Z3 := A3_0.lt
  go_wp2_with fail
  refine (I10.out _).mono ?_
  rintro e w16 ⟨rfl, hbw16⟩
  clear F0_0 G0_0 F0_1 G0_1 F1_0 G1_0 F1_1 G1_1 F2_0 G2_0 F2_1 G2_1 F3_0 G3_0 F3_1 G3_1 Z0 Z1 Z2 Z3
  replace A0_0 := At.below (A0_0) hbw16
  replace A0_1 := At.below (A0_1) hbw16
  replace A1_0 := At.below (A1_0) hbw16
  replace A1_1 := At.below (A1_1) hbw16
  replace A2_0 := At.below (A2_0) hbw16
  replace A2_1 := At.below (A2_1) hbw16
  replace A3_0 := At.below (A3_0) hbw16
  replace A3_1 := At.below (A3_1) hbw16
  replace B := below_step B B.size (hbw16)
  clear hbw16
  have F0_0 := A0_0.1; have G0_0 := A0_0.2
  have F0_1 := A0_1.1; have G0_1 := A0_1.2
  have F1_0 := A1_0.1; have G1_0 := A1_0.2
  have F1_1 := A1_1.1; have G1_1 := A1_1.2
  have F2_0 := A2_0.1; have G2_0 := A2_0.2
  have F2_1 := A2_1.1; have G2_1 := A2_1.2
  have F3_0 := A3_0.1; have G3_0 := A3_0.2
  have F3_1 := A3_1.1; have G3_1 := A3_1.2
  have Z0 := A0_0.lt
  have Z1 := A1_0.lt
  have Z2 := A2_0.lt
  have Z3 := A3_0.lt
  go_wp2_with fail
  refine (I11.out _).mono ?_
  rintro e w17 ⟨rfl, hbw17⟩
  clear F0_0 G0_0 F0_1 G0_1 F1_0 G1_0 F1_1 G1_1 F2_0 G2_0 F2_1 G2_1 F3_0 G3_0 F3_1 G3_1 Z0 Z1 Z2 Z3
  replace A0_0 := At.below (A0_0) hbw17
  replace A0_1 := At.below (A0_1) hbw17
  replace A1_0 := At.below (A1_0) hbw17
  replace A1_1 := At.below (A1_1) hbw17
  replace A2_0 := At.below (A2_0) hbw17
  replace A2_1 := At.below (A2_1) hbw17
  replace A3_0 := At.below (A3_0) hbw17
  replace A3_1 := At.below (A3_1) hbw17
  replace B := below_step B B.size (hbw17)
  clear hbw17
  have F0_0 := A0_0.1; have G0_0 := A0_0.2
  have F0_1 := A0_1.1; have G0_1 := A0_1.2
  have F1_0 := A1_0.1; have G1_0 := A1_0.2
  have F1_1 := A1_1.1; have G1_1 := A1_1.2
  have F2_0 := A2_0.1; have G2_0 := A2_0.2
  have F2_1 := A2_1.1; have G2_1 := A2_1.2
  have F3_0 := A3_0.1; have G3_0 := A3_0.2
  have F3_1 := A3_1.1; have G3_1 := A3_1.2
  have Z0 := A0_0.lt
  have Z1 := A1_0.lt
  have Z2 := A2_0.lt
  have Z3 := A3_0.lt
  clear AL SX SZ ME HU I0 I1 I2 I3 I4 I5 I6 I7 I8 I9 I10 I11
  cases t <;> cases u <;> cases i <;> cases k <;> cases l
  all_goals first | (exact absurd hit (by decide)) | (exact absurd hkl (by decide)) | (clear hit hkl; by_cases hNM : N < M)
  all_goals (go_wp2_with fail)
  all_goals go_ret
  all_goals exact ⟨rfl, B⟩

end Go.Proofs.Yteephgpefhodnaa
