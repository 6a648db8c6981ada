/- The walk of Holds. -/
import Derived.Test.YteephgpefhodnaaKA
namespace Go.Proofs.Yteephgpefhodnaa
open Go.RowKit Go.Sort Go.Fl
set_option linter.unusedSimpArgs false
set_option linter.unusedVariables false

set_option maxHeartbeats 4000000 in
theorem holds_n_nan (a b c d p q op o : Int) (u v : Nat) (hb1 : -9223372036854775808 ≤ op) (hb2 : op ≤ 9223372036854775807) (hneg : op < 0) (ho : (-(op + 1)).tmod 12 = o) (A Bh C D R0 R1 S0 S1 H K T0 T1 : Int) (rA : Rg A) (rBh : Rg Bh) (rC : Rg C) (rD : Rg D) (rR0 : Rg R0) (rR1 : Rg R1) (rS0 : Rg S0) (rS1 : Rg S1) (rH : Rg H) (rK : Rg K) (rT0 : Rg T0) (rT1 : Rg T1)
    (hSX : ∀ w, Calls Try.prog 25 #[.int .u64 a, .int .u64 b] w fun e w' => e = .returned (.agg #[.float .f64 (ofKey (A)), .float .f64 (ofKey (Bh))]) ∧ Below w.heap.size w w')
    (hSZ : ∀ w, Calls Try.prog 25 #[.int .u64 c, .int .u64 d] w fun e w' => e = .returned (.agg #[.float .f64 (ofKey (C)), .float .f64 (ofKey (D))]) ∧ Below w.heap.size w w')
    (hPX : ∀ w, Calls Try.prog 40 #[.agg #[.float .f64 (ofKey (A)), .float .f64 (ofKey (Bh))], .int .u64 p] w fun e w' => e = .returned (.float .f64 u) ∧ Below w.heap.size w w')
    (hPZ : ∀ w, Calls Try.prog 40 #[.agg #[.float .f64 (ofKey (C)), .float .f64 (ofKey (D))], .int .u64 q] w fun e w' => e = .returned (.float .f64 v) ∧ Below w.heap.size w w')
    (hA1 : ∀ w, Calls Try.prog 37 #[.int .i64 o, .agg #[.float .f64 (ofKey (A)), .float .f64 (ofKey (Bh))], .agg #[.float .f64 (ofKey (C)), .float .f64 (ofKey (D))]] w fun e w' => e = .returned (.agg #[.float .f64 (ofKey (R0)), .float .f64 (ofKey (R1))]) ∧ Below w.heap.size w w')
    (hA2 : ∀ w, Calls Try.prog 37 #[.int .i64 o, .agg #[.float .f64 (u), .float .f64 (u)], .agg #[.float .f64 (v), .float .f64 (v)]] w fun e w' => e = .returned (.agg #[.float .f64 (ofKey (S0)), .float .f64 (ofKey (S1))]) ∧ Below w.heap.size w w')
    (hRD : ∀ w, Calls Try.prog 35 #[.int .i64 o, .float .f64 u, .float .f64 v, .bool false] w fun e w' => e = .returned (.float .f64 (NANW)) ∧ Below w.heap.size w w')
    (hRU : ∀ w, Calls Try.prog 35 #[.int .i64 o, .float .f64 u, .float .f64 v, .bool true] w fun e w' => e = .returned (.float .f64 (NANW)) ∧ Below w.heap.size w w')
    (hW1 : ∀ w, Calls Try.prog 41 #[.agg #[.float .f64 (ofKey (S0)), .float .f64 (ofKey (S1))], .agg #[.float .f64 (ofKey (R0)), .float .f64 (ofKey (R1))]] w fun e w' => e = .returned (.bool true) ∧ Below w.heap.size w w')
    (hHU : ∀ w, Calls Try.prog 33 #[.agg #[.float .f64 (ofKey (A)), .float .f64 (ofKey (Bh))], .agg #[.float .f64 (ofKey (C)), .float .f64 (ofKey (D))]] w fun e w' => e = .returned (.agg #[.float .f64 (ofKey (H)), .float .f64 (ofKey (K))]) ∧ Below w.heap.size w w')
    (hA3 : ∀ w, Calls Try.prog 37 #[.int .i64 o, .agg #[.float .f64 (ofKey (H)), .float .f64 (ofKey (K))], .agg #[.float .f64 (ofKey (C)), .float .f64 (ofKey (D))]] w fun e w' => e = .returned (.agg #[.float .f64 (ofKey (T0)), .float .f64 (ofKey (T1))]) ∧ Below w.heap.size w w')
    (hW2 : ∀ w, Calls Try.prog 41 #[.agg #[.float .f64 (ofKey (R0)), .float .f64 (ofKey (R1))], .agg #[.float .f64 (ofKey (T0)), .float .f64 (ofKey (T1))]] w fun e w' => e = .returned (.bool true) ∧ Below w.heap.size w w') (w : World) :
    Calls Try.prog 12 #[.int .u64 a, .int .u64 b, .int .u64 c, .int .u64 d, .int .u64 p, .int .u64 q, .int .i64 op] w fun e w' => e = .returned (.bool true) ∧ Below w.heap.size w w' := by
  have AL := Lib.hid alive_any
  have nN := nan_NANW
  have SX := Lib.hid hSX
  have SZ := Lib.hid hSZ
  have PX := Lib.hid hPX
  have PZ := Lib.hid hPZ
  have A1 := Lib.hid hA1
  have A2 := Lib.hid hA2
  have RD := Lib.hid hRD
  have RU := Lib.hid hRU
  have W1 := Lib.hid hW1
  have HU := Lib.hid hHU
  have A3 := Lib.hid hA3
  have W2 := Lib.hid hW2
  clear hSX hSZ hPX hPZ hA1 hA2 hRD hRU hW1 hHU hA3 hW2
  go_enter Try.func12, Try.ntmps12
  go_wp2_with fail
  refine (AL.out _).mono ?_
  rintro e w1 ⟨rfl, hbw1⟩
  have B := hbw1
  clear hbw1
  go_wp2_with fail
  refine (SX.out _).mono ?_
  rintro e w2 ⟨rfl, hbw2⟩
  replace B := below_step B B.size (hbw2)
  clear hbw2
  go_wp2_with fail
  refine (SZ.out _).mono ?_
  rintro e w3 ⟨rfl, hbw3⟩
  have nB : w.heap.size ≤ w2.heap.size := B.size
  have A0_0 : At (World.alloc w2 (.cells #[.float .f64 (ofKey (A)), .float .f64 (ofKey (Bh))] 28)) (w2.heap.size) 0 (.float .f64 (ofKey (A))) := ⟨by simp [go_sem], by simp [go_sem]⟩
  replace A0_0 := At.below A0_0 hbw3
  have A0_1 : At (World.alloc w2 (.cells #[.float .f64 (ofKey (A)), .float .f64 (ofKey (Bh))] 28)) (w2.heap.size) 1 (.float .f64 (ofKey (Bh))) := ⟨by simp [go_sem], by simp [go_sem]⟩
  replace A0_1 := At.below A0_1 hbw3
  replace B := below_step B B.size (below_alloc (hbw3))
  clear hbw3
  have F0_0 := A0_0.1; have G0_0 := A0_0.2
  have F0_1 := A0_1.1; have G0_1 := A0_1.2
  have Z0 := A0_0.lt
  go_wp2_with fail
  refine (PX.out _).mono ?_
  rintro e w4 ⟨rfl, hbw4⟩
  clear F0_0 G0_0 F0_1 G0_1 Z0
  have n1 : w2.heap.size < w3.heap.size := At.lt A0_1
  replace A0_0 := At.below (At.alloc (A0_0)) hbw4
  replace A0_1 := At.below (At.alloc (A0_1)) hbw4
  have A1_0 : At (World.alloc w3 (.cells #[.float .f64 (ofKey (C)), .float .f64 (ofKey (D))] 28)) (w3.heap.size) 0 (.float .f64 (ofKey (C))) := ⟨by simp [go_sem], by simp [go_sem]⟩
  replace A1_0 := At.below A1_0 hbw4
  have A1_1 : At (World.alloc w3 (.cells #[.float .f64 (ofKey (C)), .float .f64 (ofKey (D))] 28)) (w3.heap.size) 1 (.float .f64 (ofKey (D))) := ⟨by simp [go_sem], by simp [go_sem]⟩
  replace A1_1 := At.below A1_1 hbw4
  replace B := below_step B B.size (below_alloc (hbw4))
  clear hbw4
  have F0_0 := A0_0.1; have G0_0 := A0_0.2
  have F0_1 := A0_1.1; have G0_1 := A0_1.2
  have F1_0 := A1_0.1; have G1_0 := A1_0.2
  have F1_1 := A1_1.1; have G1_1 := A1_1.2
  have Z0 := A0_0.lt
  have Z1 := A1_0.lt
  go_wp2_with fail
  refine (PZ.out _).mono ?_
  rintro e w5 ⟨rfl, hbw5⟩
  clear F0_0 G0_0 F0_1 G0_1 F1_0 G1_0 F1_1 G1_1 Z0 Z1
  replace A0_0 := At.below (A0_0) hbw5
  replace A0_1 := At.below (A0_1) hbw5
  replace A1_0 := At.below (A1_0) hbw5
  replace A1_1 := At.below (A1_1) hbw5
  replace B := below_step B B.size (hbw5)
  clear hbw5
  have F0_0 := A0_0.1; have G0_0 := A0_0.2
  have F0_1 := A0_1.1; have G0_1 := A0_1.2
  have F1_0 := A1_0.1; have G1_0 := A1_0.2
  have F1_1 := A1_1.1; have G1_1 := A1_1.2
  have Z0 := A0_0.lt
  have Z1 := A1_0.lt
  go_wp2_with fail
  refine (A1.out _).mono ?_
  rintro e w6 ⟨rfl, hbw6⟩
  clear F0_0 G0_0 F0_1 G0_1 F1_0 G1_0 F1_1 G1_1 Z0 Z1
  replace A0_0 := At.below (A0_0) hbw6
  replace A0_1 := At.below (A0_1) hbw6
  replace A1_0 := At.below (A1_0) hbw6
  replace A1_1 := At.below (A1_1) hbw6
  replace B := below_step B B.size (hbw6)
  clear hbw6
  have F0_0 := A0_0.1; have G0_0 := A0_0.2
  have F0_1 := A0_1.1; have G0_1 := A0_1.2
  have F1_0 := A1_0.1; have G1_0 := A1_0.2
  have F1_1 := A1_1.1; have G1_1 := A1_1.2
  have Z0 := A0_0.lt
  have Z1 := A1_0.lt
  go_wp2_with fail
  refine (A2.out _).mono ?_
  rintro e w7 ⟨rfl, hbw7⟩
  clear F0_0 G0_0 F0_1 G0_1 F1_0 G1_0 F1_1 G1_1 Z0 Z1
  have n2 : w3.heap.size < w6.heap.size := At.lt A1_1
  replace A0_0 := At.below (At.alloc (A0_0)) hbw7
  replace A0_1 := At.below (At.alloc (A0_1)) hbw7
  replace A1_0 := At.below (At.alloc (A1_0)) hbw7
  replace A1_1 := At.below (At.alloc (A1_1)) hbw7
  have A2_0 : At (World.alloc w6 (.cells #[.float .f64 (ofKey (R0)), .float .f64 (ofKey (R1))] 28)) (w6.heap.size) 0 (.float .f64 (ofKey (R0))) := ⟨by simp [go_sem], by simp [go_sem]⟩
  replace A2_0 := At.below A2_0 hbw7
  have A2_1 : At (World.alloc w6 (.cells #[.float .f64 (ofKey (R0)), .float .f64 (ofKey (R1))] 28)) (w6.heap.size) 1 (.float .f64 (ofKey (R1))) := ⟨by simp [go_sem], by simp [go_sem]⟩
  replace A2_1 := At.below A2_1 hbw7
  replace B := below_step B B.size (below_alloc (hbw7))
  clear hbw7
  have F0_0 := A0_0.1; have G0_0 := A0_0.2
  have F0_1 := A0_1.1; have G0_1 := A0_1.2
  have F1_0 := A1_0.1; have G1_0 := A1_0.2
  have F1_1 := A1_1.1; have G1_1 := A1_1.2
  have F2_0 := A2_0.1; have G2_0 := A2_0.2
  have F2_1 := A2_1.1; have G2_1 := A2_1.2
  have Z0 := A0_0.lt
  have Z1 := A1_0.lt
  have Z2 := A2_0.lt
  go_wp2_with fail
  refine (RD.out _).mono ?_
  rintro e w8 ⟨rfl, hbw8⟩
  clear F0_0 G0_0 F0_1 G0_1 F1_0 G1_0 F1_1 G1_1 F2_0 G2_0 F2_1 G2_1 Z0 Z1 Z2
  have n3 : w6.heap.size < w7.heap.size := At.lt A2_1
  replace A0_0 := At.below (At.alloc (A0_0)) hbw8
  replace A0_1 := At.below (At.alloc (A0_1)) hbw8
  replace A1_0 := At.below (At.alloc (A1_0)) hbw8
  replace A1_1 := At.below (At.alloc (A1_1)) hbw8
  replace A2_0 := At.below (At.alloc (A2_0)) hbw8
  replace A2_1 := At.below (At.alloc (A2_1)) hbw8
  have A3_0 : At (World.alloc w7 (.cells #[.float .f64 (ofKey (S0)), .float .f64 (ofKey (S1))] 28)) (w7.heap.size) 0 (.float .f64 (ofKey (S0))) := ⟨by simp [go_sem], by simp [go_sem]⟩
  replace A3_0 := At.below A3_0 hbw8
  have A3_1 : At (World.alloc w7 (.cells #[.float .f64 (ofKey (S0)), .float .f64 (ofKey (S1))] 28)) (w7.heap.size) 1 (.float .f64 (ofKey (S1))) := ⟨by simp [go_sem], by simp [go_sem]⟩
  replace A3_1 := At.below A3_1 hbw8
  replace B := below_step B B.size (below_alloc (hbw8))
  clear hbw8
  have F0_0 := A0_0.1; have G0_0 := A0_0.2
  have F0_1 := A0_1.1; have G0_1 := A0_1.2
  have F1_0 := A1_0.1; have G1_0 := A1_0.2
  have F1_1 := A1_1.1; have G1_1 := A1_1.2
  have F2_0 := A2_0.1; have G2_0 := A2_0.2
  have F2_1 := A2_1.1; have G2_1 := A2_1.2
  have F3_0 := A3_0.1; have G3_0 := A3_0.2
  have F3_1 := A3_1.1; have G3_1 := A3_1.2
  have Z0 := A0_0.lt
  have Z1 := A1_0.lt
  have Z2 := A2_0.lt
  have Z3 := A3_0.lt
  go_wp2_with fail
  refine (RU.out _).mono ?_
  rintro e w9 ⟨rfl, hbw9⟩
  clear F0_0 G0_0 F0_1 G0_1 F1_0 G1_0 F1_1 G1_1 F2_0 G2_0 F2_1 G2_1 F3_0 G3_0 F3_1 G3_1 Z0 Z1 Z2 Z3
  replace A0_0 := At.below (A0_0) hbw9
  replace A0_1 := At.below (A0_1) hbw9
  replace A1_0 := At.below (A1_0) hbw9
  replace A1_1 := At.below (A1_1) hbw9
  replace A2_0 := At.below (A2_0) hbw9
  replace A2_1 := At.below (A2_1) hbw9
  replace A3_0 := At.below (A3_0) hbw9
  replace A3_1 := At.below (A3_1) hbw9
  replace B := below_step B B.size (hbw9)
  clear hbw9
  have F0_0 := A0_0.1; have G0_0 := A0_0.2
  have F0_1 := A0_1.1; have G0_1 := A0_1.2
  have F1_0 := A1_0.1; have G1_0 := A1_0.2
  have F1_1 := A1_1.1; have G1_1 := A1_1.2
  have F2_0 := A2_0.1; have G2_0 := A2_0.2
  have F2_1 := A2_1.1; have G2_1 := A2_1.2
  have F3_0 := A3_0.1; have G3_0 := A3_0.2
  have F3_1 := A3_1.1; have G3_1 := A3_1.2
  have Z0 := A0_0.lt
  have Z1 := A1_0.lt
  have Z2 := A2_0.lt
  have Z3 := A3_0.lt
  go_wp2_with fail
  refine (W1.out _).mono ?_
  rintro e w10 ⟨rfl, hbw10⟩
  clear F0_0 G0_0 F0_1 G0_1 F1_0 G1_0 F1_1 G1_1 F2_0 G2_0 F2_1 G2_1 F3_0 G3_0 F3_1 G3_1 Z0 Z1 Z2 Z3
  replace A0_0 := At.below (A0_0) hbw10
  replace A0_1 := At.below (A0_1) hbw10
  replace A1_0 := At.below (A1_0) hbw10
  replace A1_1 := At.below (A1_1) hbw10
  replace A2_0 := At.below (A2_0) hbw10
  replace A2_1 := At.below (A2_1) hbw10
  replace A3_0 := At.below (A3_0) hbw10
  replace A3_1 := At.below (A3_1) hbw10
  replace B := below_step B B.size (hbw10)
  clear hbw10
  have F0_0 := A0_0.1; have G0_0 := A0_0.2
  have F0_1 := A0_1.1; have G0_1 := A0_1.2
  have F1_0 := A1_0.1; have G1_0 := A1_0.2
  have F1_1 := A1_1.1; have G1_1 := A1_1.2
  have F2_0 := A2_0.1; have G2_0 := A2_0.2
  have F2_1 := A2_1.1; have G2_1 := A2_1.2
  have F3_0 := A3_0.1; have G3_0 := A3_0.2
  have F3_1 := A3_1.1; have G3_1 := A3_1.2
  have Z0 := A0_0.lt
  have Z1 := A1_0.lt
  have Z2 := A2_0.lt
  have Z3 := A3_0.lt
  go_wp2_with fail
  refine (HU.out _).mono ?_
  rintro e w11 ⟨rfl, hbw11⟩
  clear F0_0 G0_0 F0_1 G0_1 F1_0 G1_0 F1_1 G1_1 F2_0 G2_0 F2_1 G2_1 F3_0 G3_0 F3_1 G3_1 Z0 Z1 Z2 Z3
  replace A0_0 := At.below (A0_0) hbw11
  replace A0_1 := At.below (A0_1) hbw11
  replace A1_0 := At.below (A1_0) hbw11
  replace A1_1 := At.below (A1_1) hbw11
  replace A2_0 := At.below (A2_0) hbw11
  replace A2_1 := At.below (A2_1) hbw11
  replace A3_0 := At.below (A3_0) hbw11
  replace A3_1 := At.below (A3_1) hbw11
  replace B := below_step B B.size (hbw11)
  clear hbw11
  have F0_0 := A0_0.1; have G0_0 := A0_0.2
  have F0_1 := A0_1.1; have G0_1 := A0_1.2
  have F1_0 := A1_0.1; have G1_0 := A1_0.2
  have F1_1 := A1_1.1; have G1_1 := A1_1.2
  have F2_0 := A2_0.1; have G2_0 := A2_0.2
  have F2_1 := A2_1.1; have G2_1 := A2_1.2
  have F3_0 := A3_0.1; have G3_0 := A3_0.2
  have F3_1 := A3_1.1; have G3_1 := A3_1.2
  have Z0 := A0_0.lt
  have Z1 := A1_0.lt
  have Z2 := A2_0.lt
  have Z3 := A3_0.lt
  go_wp2_with fail
  refine (A3.out _).mono ?_
  rintro e w12 ⟨rfl, hbw12⟩
  clear F0_0 G0_0 F0_1 G0_1 F1_0 G1_0 F1_1 G1_1 F2_0 G2_0 F2_1 G2_1 F3_0 G3_0 F3_1 G3_1 Z0 Z1 Z2 Z3
  have n4 : w7.heap.size < w11.heap.size := At.lt A3_1
  replace A0_0 := At.below (At.alloc (A0_0)) hbw12
  replace A0_1 := At.below (At.alloc (A0_1)) hbw12
  replace A1_0 := At.below (At.alloc (A1_0)) hbw12
  replace A1_1 := At.below (At.alloc (A1_1)) hbw12
  replace A2_0 := At.below (At.alloc (A2_0)) hbw12
  replace A2_1 := At.below (At.alloc (A2_1)) hbw12
  replace A3_0 := At.below (At.alloc (A3_0)) hbw12
  replace A3_1 := At.below (At.alloc (A3_1)) hbw12
  have A4_0 : At (World.alloc w11 (.cells #[.float .f64 (ofKey (H)), .float .f64 (ofKey (K))] 28)) (w11.heap.size) 0 (.float .f64 (ofKey (H))) := ⟨by simp [go_sem], by simp [go_sem]⟩
  replace A4_0 := At.below A4_0 hbw12
  have A4_1 : At (World.alloc w11 (.cells #[.float .f64 (ofKey (H)), .float .f64 (ofKey (K))] 28)) (w11.heap.size) 1 (.float .f64 (ofKey (K))) := ⟨by simp [go_sem], by simp [go_sem]⟩
  replace A4_1 := At.below A4_1 hbw12
  replace B := below_step B B.size (below_alloc (hbw12))
  clear hbw12
  have F0_0 := A0_0.1; have G0_0 := A0_0.2
  have F0_1 := A0_1.1; have G0_1 := A0_1.2
  have F1_0 := A1_0.1; have G1_0 := A1_0.2
  have F1_1 := A1_1.1; have G1_1 := A1_1.2
  have F2_0 := A2_0.1; have G2_0 := A2_0.2
  have F2_1 := A2_1.1; have G2_1 := A2_1.2
  have F3_0 := A3_0.1; have G3_0 := A3_0.2
  have F3_1 := A3_1.1; have G3_1 := A3_1.2
  have F4_0 := A4_0.1; have G4_0 := A4_0.2
  have F4_1 := A4_1.1; have G4_1 := A4_1.2
  have Z0 := A0_0.lt
  have Z1 := A1_0.lt
  have Z2 := A2_0.lt
  have Z3 := A3_0.lt
  have Z4 := A4_0.lt
  go_wp2_with fail
  refine (W2.out _).mono ?_
  rintro e w13 ⟨rfl, hbw13⟩
  clear F0_0 G0_0 F0_1 G0_1 F1_0 G1_0 F1_1 G1_1 F2_0 G2_0 F2_1 G2_1 F3_0 G3_0 F3_1 G3_1 F4_0 G4_0 F4_1 G4_1 Z0 Z1 Z2 Z3 Z4
  have n5 : w11.heap.size < w12.heap.size := At.lt A4_1
  replace A0_0 := At.below (At.alloc (A0_0)) hbw13
  replace A0_1 := At.below (At.alloc (A0_1)) hbw13
  replace A1_0 := At.below (At.alloc (A1_0)) hbw13
  replace A1_1 := At.below (At.alloc (A1_1)) hbw13
  replace A2_0 := At.below (At.alloc (A2_0)) hbw13
  replace A2_1 := At.below (At.alloc (A2_1)) hbw13
  replace A3_0 := At.below (At.alloc (A3_0)) hbw13
  replace A3_1 := At.below (At.alloc (A3_1)) hbw13
  replace A4_0 := At.below (At.alloc (A4_0)) hbw13
  replace A4_1 := At.below (At.alloc (A4_1)) hbw13
  have A5_0 : At (World.alloc w12 (.cells #[.float .f64 (ofKey (T0)), .float .f64 (ofKey (T1))] 28)) (w12.heap.size) 0 (.float .f64 (ofKey (T0))) := ⟨by simp [go_sem], by simp [go_sem]⟩
  replace A5_0 := At.below A5_0 hbw13
  have A5_1 : At (World.alloc w12 (.cells #[.float .f64 (ofKey (T0)), .float .f64 (ofKey (T1))] 28)) (w12.heap.size) 1 (.float .f64 (ofKey (T1))) := ⟨by simp [go_sem], by simp [go_sem]⟩
  replace A5_1 := At.below A5_1 hbw13
  replace B := below_step B B.size (below_alloc (hbw13))
  clear hbw13
  have F0_0 := A0_0.1; have G0_0 := A0_0.2
  have F0_1 := A0_1.1; have G0_1 := A0_1.2
  have F1_0 := A1_0.1; have G1_0 := A1_0.2
  have F1_1 := A1_1.1; have G1_1 := A1_1.2
  have F2_0 := A2_0.1; have G2_0 := A2_0.2
  have F2_1 := A2_1.1; have G2_1 := A2_1.2
  have F3_0 := A3_0.1; have G3_0 := A3_0.2
  have F3_1 := A3_1.1; have G3_1 := A3_1.2
  have F4_0 := A4_0.1; have G4_0 := A4_0.2
  have F4_1 := A4_1.1; have G4_1 := A4_1.2
  have F5_0 := A5_0.1; have G5_0 := A5_0.2
  have F5_1 := A5_1.1; have G5_1 := A5_1.2
  have Z0 := A0_0.lt
  have Z1 := A1_0.lt
  have Z2 := A2_0.lt
  have Z3 := A3_0.lt
  have Z4 := A4_0.lt
  have Z5 := A5_0.lt
  go_wp2_with fail
  go_ret
  exact ⟨rfl, B⟩

set_option maxHeartbeats 4000000 in
theorem holds_n_num (a b c d p q op o : Int) (u v : Nat) (hb1 : -9223372036854775808 ≤ op) (hb2 : op ≤ 9223372036854775807) (hneg : op < 0) (ho : (-(op + 1)).tmod 12 = o) (A Bh C D R0 R1 S0 S1 H K T0 T1 : Int) (rA : Rg A) (rBh : Rg Bh) (rC : Rg C) (rD : Rg D) (rR0 : Rg R0) (rR1 : Rg R1) (rS0 : Rg S0) (rS1 : Rg S1) (rH : Rg H) (rK : Rg K) (rT0 : Rg T0) (rT1 : Rg T1) (Lk Hk : Int) (rL : Rg Lk) (rHk : Rg Hk) (l1 : R0 ≤ Lk) (l2 : Lk ≤ Hk) (l3 : Hk ≤ R1)
    (hSX : ∀ w, Calls Try.prog 25 #[.int .u64 a, .int .u64 b] w fun e w' => e = .returned (.agg #[.float .f64 (ofKey (A)), .float .f64 (ofKey (Bh))]) ∧ Below w.heap.size w w')
    (hSZ : ∀ w, Calls Try.prog 25 #[.int .u64 c, .int .u64 d] w fun e w' => e = .returned (.agg #[.float .f64 (ofKey (C)), .float .f64 (ofKey (D))]) ∧ Below w.heap.size w w')
    (hPX : ∀ w, Calls Try.prog 40 #[.agg #[.float .f64 (ofKey (A)), .float .f64 (ofKey (Bh))], .int .u64 p] w fun e w' => e = .returned (.float .f64 u) ∧ Below w.heap.size w w')
    (hPZ : ∀ w, Calls Try.prog 40 #[.agg #[.float .f64 (ofKey (C)), .float .f64 (ofKey (D))], .int .u64 q] w fun e w' => e = .returned (.float .f64 v) ∧ Below w.heap.size w w')
    (hA1 : ∀ w, Calls Try.prog 37 #[.int .i64 o, .agg #[.float .f64 (ofKey (A)), .float .f64 (ofKey (Bh))], .agg #[.float .f64 (ofKey (C)), .float .f64 (ofKey (D))]] w fun e w' => e = .returned (.agg #[.float .f64 (ofKey (R0)), .float .f64 (ofKey (R1))]) ∧ Below w.heap.size w w')
    (hA2 : ∀ w, Calls Try.prog 37 #[.int .i64 o, .agg #[.float .f64 (u), .float .f64 (u)], .agg #[.float .f64 (v), .float .f64 (v)]] w fun e w' => e = .returned (.agg #[.float .f64 (ofKey (S0)), .float .f64 (ofKey (S1))]) ∧ Below w.heap.size w w')
    (hRD : ∀ w, Calls Try.prog 35 #[.int .i64 o, .float .f64 u, .float .f64 v, .bool false] w fun e w' => e = .returned (.float .f64 (ofKey Lk)) ∧ Below w.heap.size w w')
    (hRU : ∀ w, Calls Try.prog 35 #[.int .i64 o, .float .f64 u, .float .f64 v, .bool true] w fun e w' => e = .returned (.float .f64 (ofKey Hk)) ∧ Below w.heap.size w w')
    (hW1 : ∀ w, Calls Try.prog 41 #[.agg #[.float .f64 (ofKey (S0)), .float .f64 (ofKey (S1))], .agg #[.float .f64 (ofKey (R0)), .float .f64 (ofKey (R1))]] w fun e w' => e = .returned (.bool true) ∧ Below w.heap.size w w')
    (hHU : ∀ w, Calls Try.prog 33 #[.agg #[.float .f64 (ofKey (A)), .float .f64 (ofKey (Bh))], .agg #[.float .f64 (ofKey (C)), .float .f64 (ofKey (D))]] w fun e w' => e = .returned (.agg #[.float .f64 (ofKey (H)), .float .f64 (ofKey (K))]) ∧ Below w.heap.size w w')
    (hA3 : ∀ w, Calls Try.prog 37 #[.int .i64 o, .agg #[.float .f64 (ofKey (H)), .float .f64 (ofKey (K))], .agg #[.float .f64 (ofKey (C)), .float .f64 (ofKey (D))]] w fun e w' => e = .returned (.agg #[.float .f64 (ofKey (T0)), .float .f64 (ofKey (T1))]) ∧ Below w.heap.size w w')
    (hW2 : ∀ w, Calls Try.prog 41 #[.agg #[.float .f64 (ofKey (R0)), .float .f64 (ofKey (R1))], .agg #[.float .f64 (ofKey (T0)), .float .f64 (ofKey (T1))]] w fun e w' => e = .returned (.bool true) ∧ Below w.heap.size w w') (w : World) :
    Calls Try.prog 12 #[.int .u64 a, .int .u64 b, .int .u64 c, .int .u64 d, .int .u64 p, .int .u64 q, .int .i64 op] w fun e w' => e = .returned (.bool true) ∧ Below w.heap.size w w' := by
  have AL := Lib.hid alive_any
  have nN := nan_NANW
  have SX := Lib.hid hSX
  have SZ := Lib.hid hSZ
  have PX := Lib.hid hPX
  have PZ := Lib.hid hPZ
  have A1 := Lib.hid hA1
  have A2 := Lib.hid hA2
  have RD := Lib.hid hRD
  have RU := Lib.hid hRU
  have W1 := Lib.hid hW1
  have HU := Lib.hid hHU
  have A3 := Lib.hid hA3
  have W2 := Lib.hid hW2
  clear hSX hSZ hPX hPZ hA1 hA2 hRD hRU hW1 hHU hA3 hW2
  go_enter Try.func12, Try.ntmps12
  go_wp2_with fail
  refine (AL.out _).mono ?_
  rintro e w1 ⟨rfl, hbw1⟩
  have B := hbw1
  clear hbw1
  go_wp2_with fail
  refine (SX.out _).mono ?_
  rintro e w2 ⟨rfl, hbw2⟩
  replace B := below_step B B.size (hbw2)
  clear hbw2
  go_wp2_with fail
  refine (SZ.out _).mono ?_
  rintro e w3 ⟨rfl, hbw3⟩
  have nB : w.heap.size ≤ w2.heap.size := B.size
  have A0_0 : At (World.alloc w2 (.cells #[.float .f64 (ofKey (A)), .float .f64 (ofKey (Bh))] 28)) (w2.heap.size) 0 (.float .f64 (ofKey (A))) := ⟨by simp [go_sem], by simp [go_sem]⟩
  replace A0_0 := At.below A0_0 hbw3
  have A0_1 : At (World.alloc w2 (.cells #[.float .f64 (ofKey (A)), .float .f64 (ofKey (Bh))] 28)) (w2.heap.size) 1 (.float .f64 (ofKey (Bh))) := ⟨by simp [go_sem], by simp [go_sem]⟩
  replace A0_1 := At.below A0_1 hbw3
  replace B := below_step B B.size (below_alloc (hbw3))
  clear hbw3
  have F0_0 := A0_0.1; have G0_0 := A0_0.2
  have F0_1 := A0_1.1; have G0_1 := A0_1.2
  have Z0 := A0_0.lt
  go_wp2_with fail
  refine (PX.out _).mono ?_
  rintro e w4 ⟨rfl, hbw4⟩
  clear F0_0 G0_0 F0_1 G0_1 Z0
  have n1 : w2.heap.size < w3.heap.size := At.lt A0_1
  replace A0_0 := At.below (At.alloc (A0_0)) hbw4
  replace A0_1 := At.below (At.alloc (A0_1)) hbw4
  have A1_0 : At (World.alloc w3 (.cells #[.float .f64 (ofKey (C)), .float .f64 (ofKey (D))] 28)) (w3.heap.size) 0 (.float .f64 (ofKey (C))) := ⟨by simp [go_sem], by simp [go_sem]⟩
  replace A1_0 := At.below A1_0 hbw4
  have A1_1 : At (World.alloc w3 (.cells #[.float .f64 (ofKey (C)), .float .f64 (ofKey (D))] 28)) (w3.heap.size) 1 (.float .f64 (ofKey (D))) := ⟨by simp [go_sem], by simp [go_sem]⟩
  replace A1_1 := At.below A1_1 hbw4
  replace B := below_step B B.size (below_alloc (hbw4))
  clear hbw4
  have F0_0 := A0_0.1; have G0_0 := A0_0.2
  have F0_1 := A0_1.1; have G0_1 := A0_1.2
  have F1_0 := A1_0.1; have G1_0 := A1_0.2
  have F1_1 := A1_1.1; have G1_1 := A1_1.2
  have Z0 := A0_0.lt
  have Z1 := A1_0.lt
  go_wp2_with fail
  refine (PZ.out _).mono ?_
  rintro e w5 ⟨rfl, hbw5⟩
  clear F0_0 G0_0 F0_1 G0_1 F1_0 G1_0 F1_1 G1_1 Z0 Z1
  replace A0_0 := At.below (A0_0) hbw5
  replace A0_1 := At.below (A0_1) hbw5
  replace A1_0 := At.below (A1_0) hbw5
  replace A1_1 := At.below (A1_1) hbw5
  replace B := below_step B B.size (hbw5)
  clear hbw5
  have F0_0 := A0_0.1; have G0_0 := A0_0.2
  have F0_1 := A0_1.1; have G0_1 := A0_1.2
  have F1_0 := A1_0.1; have G1_0 := A1_0.2
  have F1_1 := A1_1.1; have G1_1 := A1_1.2
  have Z0 := A0_0.lt
  have Z1 := A1_0.lt
  go_wp2_with fail
  refine (A1.out _).mono ?_
  rintro e w6 ⟨rfl, hbw6⟩
  clear F0_0 G0_0 F0_1 G0_1 F1_0 G1_0 F1_1 G1_1 Z0 Z1
  replace A0_0 := At.below (A0_0) hbw6
  replace A0_1 := At.below (A0_1) hbw6
  replace A1_0 := At.below (A1_0) hbw6
  replace A1_1 := At.below (A1_1) hbw6
  replace B := below_step B B.size (hbw6)
  clear hbw6
  have F0_0 := A0_0.1; have G0_0 := A0_0.2
  have F0_1 := A0_1.1; have G0_1 := A0_1.2
  have F1_0 := A1_0.1; have G1_0 := A1_0.2
  have F1_1 := A1_1.1; have G1_1 := A1_1.2
  have Z0 := A0_0.lt
  have Z1 := A1_0.lt
  go_wp2_with fail
  refine (A2.out _).mono ?_
  rintro e w7 ⟨rfl, hbw7⟩
  clear F0_0 G0_0 F0_1 G0_1 F1_0 G1_0 F1_1 G1_1 Z0 Z1
  have n2 : w3.heap.size < w6.heap.size := At.lt A1_1
  replace A0_0 := At.below (At.alloc (A0_0)) hbw7
  replace A0_1 := At.below (At.alloc (A0_1)) hbw7
  replace A1_0 := At.below (At.alloc (A1_0)) hbw7
  replace A1_1 := At.below (At.alloc (A1_1)) hbw7
  have A2_0 : At (World.alloc w6 (.cells #[.float .f64 (ofKey (R0)), .float .f64 (ofKey (R1))] 28)) (w6.heap.size) 0 (.float .f64 (ofKey (R0))) := ⟨by simp [go_sem], by simp [go_sem]⟩
  replace A2_0 := At.below A2_0 hbw7
  have A2_1 : At (World.alloc w6 (.cells #[.float .f64 (ofKey (R0)), .float .f64 (ofKey (R1))] 28)) (w6.heap.size) 1 (.float .f64 (ofKey (R1))) := ⟨by simp [go_sem], by simp [go_sem]⟩
  replace A2_1 := At.below A2_1 hbw7
  replace B := below_step B B.size (below_alloc (hbw7))
  clear hbw7
  have F0_0 := A0_0.1; have G0_0 := A0_0.2
  have F0_1 := A0_1.1; have G0_1 := A0_1.2
  have F1_0 := A1_0.1; have G1_0 := A1_0.2
  have F1_1 := A1_1.1; have G1_1 := A1_1.2
  have F2_0 := A2_0.1; have G2_0 := A2_0.2
  have F2_1 := A2_1.1; have G2_1 := A2_1.2
  have Z0 := A0_0.lt
  have Z1 := A1_0.lt
  have Z2 := A2_0.lt
  go_wp2_with fail
  refine (RD.out _).mono ?_
  rintro e w8 ⟨rfl, hbw8⟩
  clear F0_0 G0_0 F0_1 G0_1 F1_0 G1_0 F1_1 G1_1 F2_0 G2_0 F2_1 G2_1 Z0 Z1 Z2
  have n3 : w6.heap.size < w7.heap.size := At.lt A2_1
  replace A0_0 := At.below (At.alloc (A0_0)) hbw8
  replace A0_1 := At.below (At.alloc (A0_1)) hbw8
  replace A1_0 := At.below (At.alloc (A1_0)) hbw8
  replace A1_1 := At.below (At.alloc (A1_1)) hbw8
  replace A2_0 := At.below (At.alloc (A2_0)) hbw8
  replace A2_1 := At.below (At.alloc (A2_1)) hbw8
  have A3_0 : At (World.alloc w7 (.cells #[.float .f64 (ofKey (S0)), .float .f64 (ofKey (S1))] 28)) (w7.heap.size) 0 (.float .f64 (ofKey (S0))) := ⟨by simp [go_sem], by simp [go_sem]⟩
  replace A3_0 := At.below A3_0 hbw8
  have A3_1 : At (World.alloc w7 (.cells #[.float .f64 (ofKey (S0)), .float .f64 (ofKey (S1))] 28)) (w7.heap.size) 1 (.float .f64 (ofKey (S1))) := ⟨by simp [go_sem], by simp [go_sem]⟩
  replace A3_1 := At.below A3_1 hbw8
  replace B := below_step B B.size (below_alloc (hbw8))
  clear hbw8
  have F0_0 := A0_0.1; have G0_0 := A0_0.2
  have F0_1 := A0_1.1; have G0_1 := A0_1.2
  have F1_0 := A1_0.1; have G1_0 := A1_0.2
  have F1_1 := A1_1.1; have G1_1 := A1_1.2
  have F2_0 := A2_0.1; have G2_0 := A2_0.2
  have F2_1 := A2_1.1; have G2_1 := A2_1.2
  have F3_0 := A3_0.1; have G3_0 := A3_0.2
  have F3_1 := A3_1.1; have G3_1 := A3_1.2
  have Z0 := A0_0.lt
  have Z1 := A1_0.lt
  have Z2 := A2_0.lt
  have Z3 := A3_0.lt
  go_wp2_with fail
  refine (RU.out _).mono ?_
  rintro e w9 ⟨rfl, hbw9⟩
  clear F0_0 G0_0 F0_1 G0_1 F1_0 G1_0 F1_1 G1_1 F2_0 G2_0 F2_1 G2_1 F3_0 G3_0 F3_1 G3_1 Z0 Z1 Z2 Z3
  replace A0_0 := At.below (A0_0) hbw9
  replace A0_1 := At.below (A0_1) hbw9
  replace A1_0 := At.below (A1_0) hbw9
  replace A1_1 := At.below (A1_1) hbw9
  replace A2_0 := At.below (A2_0) hbw9
  replace A2_1 := At.below (A2_1) hbw9
  replace A3_0 := At.below (A3_0) hbw9
  replace A3_1 := At.below (A3_1) hbw9
  replace B := below_step B B.size (hbw9)
  clear hbw9
  have F0_0 := A0_0.1; have G0_0 := A0_0.2
  have F0_1 := A0_1.1; have G0_1 := A0_1.2
  have F1_0 := A1_0.1; have G1_0 := A1_0.2
  have F1_1 := A1_1.1; have G1_1 := A1_1.2
  have F2_0 := A2_0.1; have G2_0 := A2_0.2
  have F2_1 := A2_1.1; have G2_1 := A2_1.2
  have F3_0 := A3_0.1; have G3_0 := A3_0.2
  have F3_1 := A3_1.1; have G3_1 := A3_1.2
  have Z0 := A0_0.lt
  have Z1 := A1_0.lt
  have Z2 := A2_0.lt
  have Z3 := A3_0.lt
  go_wp2_with fail
  refine (W1.out _).mono ?_
  rintro e w10 ⟨rfl, hbw10⟩
  clear F0_0 G0_0 F0_1 G0_1 F1_0 G1_0 F1_1 G1_1 F2_0 G2_0 F2_1 G2_1 F3_0 G3_0 F3_1 G3_1 Z0 Z1 Z2 Z3
  replace A0_0 := At.below (A0_0) hbw10
  replace A0_1 := At.below (A0_1) hbw10
  replace A1_0 := At.below (A1_0) hbw10
  replace A1_1 := At.below (A1_1) hbw10
  replace A2_0 := At.below (A2_0) hbw10
  replace A2_1 := At.below (A2_1) hbw10
  replace A3_0 := At.below (A3_0) hbw10
  replace A3_1 := At.below (A3_1) hbw10
  replace B := below_step B B.size (hbw10)
  clear hbw10
  have F0_0 := A0_0.1; have G0_0 := A0_0.2
  have F0_1 := A0_1.1; have G0_1 := A0_1.2
  have F1_0 := A1_0.1; have G1_0 := A1_0.2
  have F1_1 := A1_1.1; have G1_1 := A1_1.2
  have F2_0 := A2_0.1; have G2_0 := A2_0.2
  have F2_1 := A2_1.1; have G2_1 := A2_1.2
  have F3_0 := A3_0.1; have G3_0 := A3_0.2
  have F3_1 := A3_1.1; have G3_1 := A3_1.2
  have Z0 := A0_0.lt
  have Z1 := A1_0.lt
  have Z2 := A2_0.lt
  have Z3 := A3_0.lt
  go_wp2_with fail
  refine (HU.out _).mono ?_
  rintro e w11 ⟨rfl, hbw11⟩
  clear F0_0 G0_0 F0_1 G0_1 F1_0 G1_0 F1_1 G1_1 F2_0 G2_0 F2_1 G2_1 F3_0 G3_0 F3_1 G3_1 Z0 Z1 Z2 Z3
  replace A0_0 := At.below (A0_0) hbw11
  replace A0_1 := At.below (A0_1) hbw11
  replace A1_0 := At.below (A1_0) hbw11
  replace A1_1 := At.below (A1_1) hbw11
  replace A2_0 := At.below (A2_0) hbw11
  replace A2_1 := At.below (A2_1) hbw11
  replace A3_0 := At.below (A3_0) hbw11
  replace A3_1 := At.below (A3_1) hbw11
  replace B := below_step B B.size (hbw11)
  clear hbw11
  have F0_0 := A0_0.1; have G0_0 := A0_0.2
  have F0_1 := A0_1.1; have G0_1 := A0_1.2
  have F1_0 := A1_0.1; have G1_0 := A1_0.2
  have F1_1 := A1_1.1; have G1_1 := A1_1.2
  have F2_0 := A2_0.1; have G2_0 := A2_0.2
  have F2_1 := A2_1.1; have G2_1 := A2_1.2
  have F3_0 := A3_0.1; have G3_0 := A3_0.2
  have F3_1 := A3_1.1; have G3_1 := A3_1.2
  have Z0 := A0_0.lt
  have Z1 := A1_0.lt
  have Z2 := A2_0.lt
  have Z3 := A3_0.lt
  go_wp2_with fail
  refine (A3.out _).mono ?_
  rintro e w12 ⟨rfl, hbw12⟩
  clear F0_0 G0_0 F0_1 G0_1 F1_0 G1_0 F1_1 G1_1 F2_0 G2_0 F2_1 G2_1 F3_0 G3_0 F3_1 G3_1 Z0 Z1 Z2 Z3
  have n4 : w7.heap.size < w11.heap.size := At.lt A3_1
  replace A0_0 := At.below (At.alloc (A0_0)) hbw12
  replace A0_1 := At.below (At.alloc (A0_1)) hbw12
  replace A1_0 := At.below (At.alloc (A1_0)) hbw12
  replace A1_1 := At.below (At.alloc (A1_1)) hbw12
  replace A2_0 := At.below (At.alloc (A2_0)) hbw12
  replace A2_1 := At.below (At.alloc (A2_1)) hbw12
  replace A3_0 := At.below (At.alloc (A3_0)) hbw12
  replace A3_1 := At.below (At.alloc (A3_1)) hbw12
  have A4_0 : At (World.alloc w11 (.cells #[.float .f64 (ofKey (H)), .float .f64 (ofKey (K))] 28)) (w11.heap.size) 0 (.float .f64 (ofKey (H))) := ⟨by simp [go_sem], by simp [go_sem]⟩
  replace A4_0 := At.below A4_0 hbw12
  have A4_1 : At (World.alloc w11 (.cells #[.float .f64 (ofKey (H)), .float .f64 (ofKey (K))] 28)) (w11.heap.size) 1 (.float .f64 (ofKey (K))) := ⟨by simp [go_sem], by simp [go_sem]⟩
  replace A4_1 := At.below A4_1 hbw12
  replace B := below_step B B.size (below_alloc (hbw12))
  clear hbw12
  have F0_0 := A0_0.1; have G0_0 := A0_0.2
  have F0_1 := A0_1.1; have G0_1 := A0_1.2
  have F1_0 := A1_0.1; have G1_0 := A1_0.2
  have F1_1 := A1_1.1; have G1_1 := A1_1.2
  have F2_0 := A2_0.1; have G2_0 := A2_0.2
  have F2_1 := A2_1.1; have G2_1 := A2_1.2
  have F3_0 := A3_0.1; have G3_0 := A3_0.2
  have F3_1 := A3_1.1; have G3_1 := A3_1.2
  have F4_0 := A4_0.1; have G4_0 := A4_0.2
  have F4_1 := A4_1.1; have G4_1 := A4_1.2
  have Z0 := A0_0.lt
  have Z1 := A1_0.lt
  have Z2 := A2_0.lt
  have Z3 := A3_0.lt
  have Z4 := A4_0.lt
  go_wp2_with fail
  refine (W2.out _).mono ?_
  rintro e w13 ⟨rfl, hbw13⟩
  clear F0_0 G0_0 F0_1 G0_1 F1_0 G1_0 F1_1 G1_1 F2_0 G2_0 F2_1 G2_1 F3_0 G3_0 F3_1 G3_1 F4_0 G4_0 F4_1 G4_1 Z0 Z1 Z2 Z3 Z4
  have n5 : w11.heap.size < w12.heap.size := At.lt A4_1
  replace A0_0 := At.below (At.alloc (A0_0)) hbw13
  replace A0_1 := At.below (At.alloc (A0_1)) hbw13
  replace A1_0 := At.below (At.alloc (A1_0)) hbw13
  replace A1_1 := At.below (At.alloc (A1_1)) hbw13
  replace A2_0 := At.below (At.alloc (A2_0)) hbw13
  replace A2_1 := At.below (At.alloc (A2_1)) hbw13
  replace A3_0 := At.below (At.alloc (A3_0)) hbw13
  replace A3_1 := At.below (At.alloc (A3_1)) hbw13
  replace A4_0 := At.below (At.alloc (A4_0)) hbw13
  replace A4_1 := At.below (At.alloc (A4_1)) hbw13
  have A5_0 : At (World.alloc w12 (.cells #[.float .f64 (ofKey (T0)), .float .f64 (ofKey (T1))] 28)) (w12.heap.size) 0 (.float .f64 (ofKey (T0))) := ⟨by simp [go_sem], by simp [go_sem]⟩
  replace A5_0 := At.below A5_0 hbw13
  have A5_1 : At (World.alloc w12 (.cells #[.float .f64 (ofKey (T0)), .float .f64 (ofKey (T1))] 28)) (w12.heap.size) 1 (.float .f64 (ofKey (T1))) := ⟨by simp [go_sem], by simp [go_sem]⟩
  replace A5_1 := At.below A5_1 hbw13
  replace B := below_step B B.size (below_alloc (hbw13))
  clear hbw13
  have F0_0 := A0_0.1; have G0_0 := A0_0.2
  have F0_1 := A0_1.1; have G0_1 := A0_1.2
  have F1_0 := A1_0.1; have G1_0 := A1_0.2
  have F1_1 := A1_1.1; have G1_1 := A1_1.2
  have F2_0 := A2_0.1; have G2_0 := A2_0.2
  have F2_1 := A2_1.1; have G2_1 := A2_1.2
  have F3_0 := A3_0.1; have G3_0 := A3_0.2
  have F3_1 := A3_1.1; have G3_1 := A3_1.2
  have F4_0 := A4_0.1; have G4_0 := A4_0.2
  have F4_1 := A4_1.1; have G4_1 := A4_1.2
  have F5_0 := A5_0.1; have G5_0 := A5_0.2
  have F5_1 := A5_1.1; have G5_1 := A5_1.2
  have Z0 := A0_0.lt
  have Z1 := A1_0.lt
  have Z2 := A2_0.lt
  have Z3 := A3_0.lt
  have Z4 := A4_0.lt
  have Z5 := A5_0.lt
  go_wp2_with fail
  go_ret
  exact ⟨rfl, B⟩

set_option maxHeartbeats 4000000 in
theorem holds_p_nan (a b c d p q op o : Int) (u v : Nat) (hb1 : -9223372036854775808 ≤ op) (hb2 : op ≤ 9223372036854775807) (hneg : ¬ op < 0) (ho : op.tmod 12 = o) (A Bh C D R0 R1 S0 S1 H K T0 T1 : Int) (rA : Rg A) (rBh : Rg Bh) (rC : Rg C) (rD : Rg D) (rR0 : Rg R0) (rR1 : Rg R1) (rS0 : Rg S0) (rS1 : Rg S1) (rH : Rg H) (rK : Rg K) (rT0 : Rg T0) (rT1 : Rg T1)
    (hSX : ∀ w, Calls Try.prog 25 #[.int .u64 a, .int .u64 b] w fun e w' => e = .returned (.agg #[.float .f64 (ofKey (A)), .float .f64 (ofKey (Bh))]) ∧ Below w.heap.size w w')
    (hSZ : ∀ w, Calls Try.prog 25 #[.int .u64 c, .int .u64 d] w fun e w' => e = .returned (.agg #[.float .f64 (ofKey (C)), .float .f64 (ofKey (D))]) ∧ Below w.heap.size w w')
    (hPX : ∀ w, Calls Try.prog 40 #[.agg #[.float .f64 (ofKey (A)), .float .f64 (ofKey (Bh))], .int .u64 p] w fun e w' => e = .returned (.float .f64 u) ∧ Below w.heap.size w w')
    (hPZ : ∀ w, Calls Try.prog 40 #[.agg #[.float .f64 (ofKey (C)), .float .f64 (ofKey (D))], .int .u64 q] w fun e w' => e = .returned (.float .f64 v) ∧ Below w.heap.size w w')
    (hA1 : ∀ w, Calls Try.prog 37 #[.int .i64 o, .agg #[.float .f64 (ofKey (A)), .float .f64 (ofKey (Bh))], .agg #[.float .f64 (ofKey (C)), .float .f64 (ofKey (D))]] w fun e w' => e = .returned (.agg #[.float .f64 (ofKey (R0)), .float .f64 (ofKey (R1))]) ∧ Below w.heap.size w w')
    (hA2 : ∀ w, Calls Try.prog 37 #[.int .i64 o, .agg #[.float .f64 (u), .float .f64 (u)], .agg #[.float .f64 (v), .float .f64 (v)]] w fun e w' => e = .returned (.agg #[.float .f64 (ofKey (S0)), .float .f64 (ofKey (S1))]) ∧ Below w.heap.size w w')
    (hRD : ∀ w, Calls Try.prog 35 #[.int .i64 o, .float .f64 u, .float .f64 v, .bool false] w fun e w' => e = .returned (.float .f64 (NANW)) ∧ Below w.heap.size w w')
    (hRU : ∀ w, Calls Try.prog 35 #[.int .i64 o, .float .f64 u, .float .f64 v, .bool true] w fun e w' => e = .returned (.float .f64 (NANW)) ∧ Below w.heap.size w w')
    (hW1 : ∀ w, Calls Try.prog 41 #[.agg #[.float .f64 (ofKey (S0)), .float .f64 (ofKey (S1))], .agg #[.float .f64 (ofKey (R0)), .float .f64 (ofKey (R1))]] w fun e w' => e = .returned (.bool true) ∧ Below w.heap.size w w')
    (hHU : ∀ w, Calls Try.prog 33 #[.agg #[.float .f64 (ofKey (A)), .float .f64 (ofKey (Bh))], .agg #[.float .f64 (ofKey (C)), .float .f64 (ofKey (D))]] w fun e w' => e = .returned (.agg #[.float .f64 (ofKey (H)), .float .f64 (ofKey (K))]) ∧ Below w.heap.size w w')
    (hA3 : ∀ w, Calls Try.prog 37 #[.int .i64 o, .agg #[.float .f64 (ofKey (H)), .float .f64 (ofKey (K))], .agg #[.float .f64 (ofKey (C)), .float .f64 (ofKey (D))]] w fun e w' => e = .returned (.agg #[.float .f64 (ofKey (T0)), .float .f64 (ofKey (T1))]) ∧ Below w.heap.size w w')
    (hW2 : ∀ w, Calls Try.prog 41 #[.agg #[.float .f64 (ofKey (R0)), .float .f64 (ofKey (R1))], .agg #[.float .f64 (ofKey (T0)), .float .f64 (ofKey (T1))]] w fun e w' => e = .returned (.bool true) ∧ Below w.heap.size w w') (w : World) :
    Calls Try.prog 12 #[.int .u64 a, .int .u64 b, .int .u64 c, .int .u64 d, .int .u64 p, .int .u64 q, .int .i64 op] w fun e w' => e = .returned (.bool true) ∧ Below w.heap.size w w' := by
  have AL := Lib.hid alive_any
  have nN := nan_NANW
  have SX := Lib.hid hSX
  have SZ := Lib.hid hSZ
  have PX := Lib.hid hPX
  have PZ := Lib.hid hPZ
  have A1 := Lib.hid hA1
  have A2 := Lib.hid hA2
  have RD := Lib.hid hRD
  have RU := Lib.hid hRU
  have W1 := Lib.hid hW1
  have HU := Lib.hid hHU
  have A3 := Lib.hid hA3
  have W2 := Lib.hid hW2
  clear hSX hSZ hPX hPZ hA1 hA2 hRD hRU hW1 hHU hA3 hW2
  go_enter Try.func12, Try.ntmps12
  go_wp2_with fail
  refine (AL.out _).mono ?_
  rintro e w1 ⟨rfl, hbw1⟩
  have B := hbw1
  clear hbw1
  go_wp2_with fail
  refine (SX.out _).mono ?_
  rintro e w2 ⟨rfl, hbw2⟩
  replace B := below_step B B.size (hbw2)
  clear hbw2
  go_wp2_with fail
  refine (SZ.out _).mono ?_
  rintro e w3 ⟨rfl, hbw3⟩
  have nB : w.heap.size ≤ w2.heap.size := B.size
  have A0_0 : At (World.alloc w2 (.cells #[.float .f64 (ofKey (A)), .float .f64 (ofKey (Bh))] 28)) (w2.heap.size) 0 (.float .f64 (ofKey (A))) := ⟨by simp [go_sem], by simp [go_sem]⟩
  replace A0_0 := At.below A0_0 hbw3
  have A0_1 : At (World.alloc w2 (.cells #[.float .f64 (ofKey (A)), .float .f64 (ofKey (Bh))] 28)) (w2.heap.size) 1 (.float .f64 (ofKey (Bh))) := ⟨by simp [go_sem], by simp [go_sem]⟩
  replace A0_1 := At.below A0_1 hbw3
  replace B := below_step B B.size (below_alloc (hbw3))
  clear hbw3
  have F0_0 := A0_0.1; have G0_0 := A0_0.2
  have F0_1 := A0_1.1; have G0_1 := A0_1.2
  have Z0 := A0_0.lt
  go_wp2_with fail
  refine (PX.out _).mono ?_
  rintro e w4 ⟨rfl, hbw4⟩
  clear F0_0 G0_0 F0_1 G0_1 Z0
  have n1 : w2.heap.size < w3.heap.size := At.lt A0_1
  replace A0_0 := At.below (At.alloc (A0_0)) hbw4
  replace A0_1 := At.below (At.alloc (A0_1)) hbw4
  have A1_0 : At (World.alloc w3 (.cells #[.float .f64 (ofKey (C)), .float .f64 (ofKey (D))] 28)) (w3.heap.size) 0 (.float .f64 (ofKey (C))) := ⟨by simp [go_sem], by simp [go_sem]⟩
  replace A1_0 := At.below A1_0 hbw4
  have A1_1 : At (World.alloc w3 (.cells #[.float .f64 (ofKey (C)), .float .f64 (ofKey (D))] 28)) (w3.heap.size) 1 (.float .f64 (ofKey (D))) := ⟨by simp [go_sem], by simp [go_sem]⟩
  replace A1_1 := At.below A1_1 hbw4
  replace B := below_step B B.size (below_alloc (hbw4))
  clear hbw4
  have F0_0 := A0_0.1; have G0_0 := A0_0.2
  have F0_1 := A0_1.1; have G0_1 := A0_1.2
  have F1_0 := A1_0.1; have G1_0 := A1_0.2
  have F1_1 := A1_1.1; have G1_1 := A1_1.2
  have Z0 := A0_0.lt
  have Z1 := A1_0.lt
  go_wp2_with fail
  refine (PZ.out _).mono ?_
  rintro e w5 ⟨rfl, hbw5⟩
  clear F0_0 G0_0 F0_1 G0_1 F1_0 G1_0 F1_1 G1_1 Z0 Z1
  replace A0_0 := At.below (A0_0) hbw5
  replace A0_1 := At.below (A0_1) hbw5
  replace A1_0 := At.below (A1_0) hbw5
  replace A1_1 := At.below (A1_1) hbw5
  replace B := below_step B B.size (hbw5)
  clear hbw5
  have F0_0 := A0_0.1; have G0_0 := A0_0.2
  have F0_1 := A0_1.1; have G0_1 := A0_1.2
  have F1_0 := A1_0.1; have G1_0 := A1_0.2
  have F1_1 := A1_1.1; have G1_1 := A1_1.2
  have Z0 := A0_0.lt
  have Z1 := A1_0.lt
  go_wp2_with fail
  refine (A1.out _).mono ?_
  rintro e w6 ⟨rfl, hbw6⟩
  clear F0_0 G0_0 F0_1 G0_1 F1_0 G1_0 F1_1 G1_1 Z0 Z1
  replace A0_0 := At.below (A0_0) hbw6
  replace A0_1 := At.below (A0_1) hbw6
  replace A1_0 := At.below (A1_0) hbw6
  replace A1_1 := At.below (A1_1) hbw6
  replace B := below_step B B.size (hbw6)
  clear hbw6
  have F0_0 := A0_0.1; have G0_0 := A0_0.2
  have F0_1 := A0_1.1; have G0_1 := A0_1.2
  have F1_0 := A1_0.1; have G1_0 := A1_0.2
  have F1_1 := A1_1.1; have G1_1 := A1_1.2
  have Z0 := A0_0.lt
  have Z1 := A1_0.lt
  go_wp2_with fail
  refine (A2.out _).mono ?_
  rintro e w7 ⟨rfl, hbw7⟩
  clear F0_0 G0_0 F0_1 G0_1 F1_0 G1_0 F1_1 G1_1 Z0 Z1
  have n2 : w3.heap.size < w6.heap.size := At.lt A1_1
  replace A0_0 := At.below (At.alloc (A0_0)) hbw7
  replace A0_1 := At.below (At.alloc (A0_1)) hbw7
  replace A1_0 := At.below (At.alloc (A1_0)) hbw7
  replace A1_1 := At.below (At.alloc (A1_1)) hbw7
  have A2_0 : At (World.alloc w6 (.cells #[.float .f64 (ofKey (R0)), .float .f64 (ofKey (R1))] 28)) (w6.heap.size) 0 (.float .f64 (ofKey (R0))) := ⟨by simp [go_sem], by simp [go_sem]⟩
  replace A2_0 := At.below A2_0 hbw7
  have A2_1 : At (World.alloc w6 (.cells #[.float .f64 (ofKey (R0)), .float .f64 (ofKey (R1))] 28)) (w6.heap.size) 1 (.float .f64 (ofKey (R1))) := ⟨by simp [go_sem], by simp [go_sem]⟩
  replace A2_1 := At.below A2_1 hbw7
  replace B := below_step B B.size (below_alloc (hbw7))
  clear hbw7
  have F0_0 := A0_0.1; have G0_0 := A0_0.2
  have F0_1 := A0_1.1; have G0_1 := A0_1.2
  have F1_0 := A1_0.1; have G1_0 := A1_0.2
  have F1_1 := A1_1.1; have G1_1 := A1_1.2
  have F2_0 := A2_0.1; have G2_0 := A2_0.2
  have F2_1 := A2_1.1; have G2_1 := A2_1.2
  have Z0 := A0_0.lt
  have Z1 := A1_0.lt
  have Z2 := A2_0.lt
  go_wp2_with fail
  refine (RD.out _).mono ?_
  rintro e w8 ⟨rfl, hbw8⟩
  clear F0_0 G0_0 F0_1 G0_1 F1_0 G1_0 F1_1 G1_1 F2_0 G2_0 F2_1 G2_1 Z0 Z1 Z2
  have n3 : w6.heap.size < w7.heap.size := At.lt A2_1
  replace A0_0 := At.below (At.alloc (A0_0)) hbw8
  replace A0_1 := At.below (At.alloc (A0_1)) hbw8
  replace A1_0 := At.below (At.alloc (A1_0)) hbw8
  replace A1_1 := At.below (At.alloc (A1_1)) hbw8
  replace A2_0 := At.below (At.alloc (A2_0)) hbw8
  replace A2_1 := At.below (At.alloc (A2_1)) hbw8
  have A3_0 : At (World.alloc w7 (.cells #[.float .f64 (ofKey (S0)), .float .f64 (ofKey (S1))] 28)) (w7.heap.size) 0 (.float .f64 (ofKey (S0))) := ⟨by simp [go_sem], by simp [go_sem]⟩
  replace A3_0 := At.below A3_0 hbw8
  have A3_1 : At (World.alloc w7 (.cells #[.float .f64 (ofKey (S0)), .float .f64 (ofKey (S1))] 28)) (w7.heap.size) 1 (.float .f64 (ofKey (S1))) := ⟨by simp [go_sem], by simp [go_sem]⟩
  replace A3_1 := At.below A3_1 hbw8
  replace B := below_step B B.size (below_alloc (hbw8))
  clear hbw8
  have F0_0 := A0_0.1; have G0_0 := A0_0.2
  have F0_1 := A0_1.1; have G0_1 := A0_1.2
  have F1_0 := A1_0.1; have G1_0 := A1_0.2
  have F1_1 := A1_1.1; have G1_1 := A1_1.2
  have F2_0 := A2_0.1; have G2_0 := A2_0.2
  have F2_1 := A2_1.1; have G2_1 := A2_1.2
  have F3_0 := A3_0.1; have G3_0 := A3_0.2
  have F3_1 := A3_1.1; have G3_1 := A3_1.2
  have Z0 := A0_0.lt
  have Z1 := A1_0.lt
  have Z2 := A2_0.lt
  have Z3 := A3_0.lt
  go_wp2_with fail
  refine (RU.out _).mono ?_
  rintro e w9 ⟨rfl, hbw9⟩
  clear F0_0 G0_0 F0_1 G0_1 F1_0 G1_0 F1_1 G1_1 F2_0 G2_0 F2_1 G2_1 F3_0 G3_0 F3_1 G3_1 Z0 Z1 Z2 Z3
  replace A0_0 := At.below (A0_0) hbw9
  replace A0_1 := At.below (A0_1) hbw9
  replace A1_0 := At.below (A1_0) hbw9
  replace A1_1 := At.below (A1_1) hbw9
  replace A2_0 := At.below (A2_0) hbw9
  replace A2_1 := At.below (A2_1) hbw9
  replace A3_0 := At.below (A3_0) hbw9
  replace A3_1 := At.below (A3_1) hbw9
  replace B := below_step B B.size (hbw9)
  clear hbw9
  have F0_0 := A0_0.1; have G0_0 := A0_0.2
  have F0_1 := A0_1.1; have G0_1 := A0_1.2
  have F1_0 := A1_0.1; have G1_0 := A1_0.2
  have F1_1 := A1_1.1; have G1_1 := A1_1.2
  have F2_0 := A2_0.1; have G2_0 := A2_0.2
  have F2_1 := A2_1.1; have G2_1 := A2_1.2
  have F3_0 := A3_0.1; have G3_0 := A3_0.2
  have F3_1 := A3_1.1; have G3_1 := A3_1.2
  have Z0 := A0_0.lt
  have Z1 := A1_0.lt
  have Z2 := A2_0.lt
  have Z3 := A3_0.lt
  go_wp2_with fail
  refine (W1.out _).mono ?_
  rintro e w10 ⟨rfl, hbw10⟩
  clear F0_0 G0_0 F0_1 G0_1 F1_0 G1_0 F1_1 G1_1 F2_0 G2_0 F2_1 G2_1 F3_0 G3_0 F3_1 G3_1 Z0 Z1 Z2 Z3
  replace A0_0 := At.below (A0_0) hbw10
  replace A0_1 := At.below (A0_1) hbw10
  replace A1_0 := At.below (A1_0) hbw10
  replace A1_1 := At.below (A1_1) hbw10
  replace A2_0 := At.below (A2_0) hbw10
  replace A2_1 := At.below (A2_1) hbw10
  replace A3_0 := At.below (A3_0) hbw10
  replace A3_1 := At.below (A3_1) hbw10
  replace B := below_step B B.size (hbw10)
  clear hbw10
  have F0_0 := A0_0.1; have G0_0 := A0_0.2
  have F0_1 := A0_1.1; have G0_1 := A0_1.2
  have F1_0 := A1_0.1; have G1_0 := A1_0.2
  have F1_1 := A1_1.1; have G1_1 := A1_1.2
  have F2_0 := A2_0.1; have G2_0 := A2_0.2
  have F2_1 := A2_1.1; have G2_1 := A2_1.2
  have F3_0 := A3_0.1; have G3_0 := A3_0.2
  have F3_1 := A3_1.1; have G3_1 := A3_1.2
  have Z0 := A0_0.lt
  have Z1 := A1_0.lt
  have Z2 := A2_0.lt
  have Z3 := A3_0.lt
  go_wp2_with fail
  refine (HU.out _).mono ?_
  rintro e w11 ⟨rfl, hbw11⟩
  clear F0_0 G0_0 F0_1 G0_1 F1_0 G1_0 F1_1 G1_1 F2_0 G2_0 F2_1 G2_1 F3_0 G3_0 F3_1 G3_1 Z0 Z1 Z2 Z3
  replace A0_0 := At.below (A0_0) hbw11
  replace A0_1 := At.below (A0_1) hbw11
  replace A1_0 := At.below (A1_0) hbw11
  replace A1_1 := At.below (A1_1) hbw11
  replace A2_0 := At.below (A2_0) hbw11
  replace A2_1 := At.below (A2_1) hbw11
  replace A3_0 := At.below (A3_0) hbw11
  replace A3_1 := At.below (A3_1) hbw11
  replace B := below_step B B.size (hbw11)
  clear hbw11
  have F0_0 := A0_0.1; have G0_0 := A0_0.2
  have F0_1 := A0_1.1; have G0_1 := A0_1.2
  have F1_0 := A1_0.1; have G1_0 := A1_0.2
  have F1_1 := A1_1.1; have G1_1 := A1_1.2
  have F2_0 := A2_0.1; have G2_0 := A2_0.2
  have F2_1 := A2_1.1; have G2_1 := A2_1.2
  have F3_0 := A3_0.1; have G3_0 := A3_0.2
  have F3_1 := A3_1.1; have G3_1 := A3_1.2
  have Z0 := A0_0.lt
  have Z1 := A1_0.lt
  have Z2 := A2_0.lt
  have Z3 := A3_0.lt
  go_wp2_with fail
  refine (A3.out _).mono ?_
  rintro e w12 ⟨rfl, hbw12⟩
  clear F0_0 G0_0 F0_1 G0_1 F1_0 G1_0 F1_1 G1_1 F2_0 G2_0 F2_1 G2_1 F3_0 G3_0 F3_1 G3_1 Z0 Z1 Z2 Z3
  have n4 : w7.heap.size < w11.heap.size := At.lt A3_1
  replace A0_0 := At.below (At.alloc (A0_0)) hbw12
  replace A0_1 := At.below (At.alloc (A0_1)) hbw12
  replace A1_0 := At.below (At.alloc (A1_0)) hbw12
  replace A1_1 := At.below (At.alloc (A1_1)) hbw12
  replace A2_0 := At.below (At.alloc (A2_0)) hbw12
  replace A2_1 := At.below (At.alloc (A2_1)) hbw12
  replace A3_0 := At.below (At.alloc (A3_0)) hbw12
  replace A3_1 := At.below (At.alloc (A3_1)) hbw12
  have A4_0 : At (World.alloc w11 (.cells #[.float .f64 (ofKey (H)), .float .f64 (ofKey (K))] 28)) (w11.heap.size) 0 (.float .f64 (ofKey (H))) := ⟨by simp [go_sem], by simp [go_sem]⟩
  replace A4_0 := At.below A4_0 hbw12
  have A4_1 : At (World.alloc w11 (.cells #[.float .f64 (ofKey (H)), .float .f64 (ofKey (K))] 28)) (w11.heap.size) 1 (.float .f64 (ofKey (K))) := ⟨by simp [go_sem], by simp [go_sem]⟩
  replace A4_1 := At.below A4_1 hbw12
  replace B := below_step B B.size (below_alloc (hbw12))
  clear hbw12
  have F0_0 := A0_0.1; have G0_0 := A0_0.2
  have F0_1 := A0_1.1; have G0_1 := A0_1.2
  have F1_0 := A1_0.1; have G1_0 := A1_0.2
  have F1_1 := A1_1.1; have G1_1 := A1_1.2
  have F2_0 := A2_0.1; have G2_0 := A2_0.2
  have F2_1 := A2_1.1; have G2_1 := A2_1.2
  have F3_0 := A3_0.1; have G3_0 := A3_0.2
  have F3_1 := A3_1.1; have G3_1 := A3_1.2
  have F4_0 := A4_0.1; have G4_0 := A4_0.2
  have F4_1 := A4_1.1; have G4_1 := A4_1.2
  have Z0 := A0_0.lt
  have Z1 := A1_0.lt
  have Z2 := A2_0.lt
  have Z3 := A3_0.lt
  have Z4 := A4_0.lt
  go_wp2_with fail
  refine (W2.out _).mono ?_
  rintro e w13 ⟨rfl, hbw13⟩
  clear F0_0 G0_0 F0_1 G0_1 F1_0 G1_0 F1_1 G1_1 F2_0 G2_0 F2_1 G2_1 F3_0 G3_0 F3_1 G3_1 F4_0 G4_0 F4_1 G4_1 Z0 Z1 Z2 Z3 Z4
  have n5 : w11.heap.size < w12.heap.size := At.lt A4_1
  replace A0_0 := At.below (At.alloc (A0_0)) hbw13
  replace A0_1 := At.below (At.alloc (A0_1)) hbw13
  replace A1_0 := At.below (At.alloc (A1_0)) hbw13
  replace A1_1 := At.below (At.alloc (A1_1)) hbw13
  replace A2_0 := At.below (At.alloc (A2_0)) hbw13
  replace A2_1 := At.below (At.alloc (A2_1)) hbw13
  replace A3_0 := At.below (At.alloc (A3_0)) hbw13
  replace A3_1 := At.below (At.alloc (A3_1)) hbw13
  replace A4_0 := At.below (At.alloc (A4_0)) hbw13
  replace A4_1 := At.below (At.alloc (A4_1)) hbw13
  have A5_0 : At (World.alloc w12 (.cells #[.float .f64 (ofKey (T0)), .float .f64 (ofKey (T1))] 28)) (w12.heap.size) 0 (.float .f64 (ofKey (T0))) := ⟨by simp [go_sem], by simp [go_sem]⟩
  replace A5_0 := At.below A5_0 hbw13
  have A5_1 : At (World.alloc w12 (.cells #[.float .f64 (ofKey (T0)), .float .f64 (ofKey (T1))] 28)) (w12.heap.size) 1 (.float .f64 (ofKey (T1))) := ⟨by simp [go_sem], by simp [go_sem]⟩
  replace A5_1 := At.below A5_1 hbw13
  replace B := below_step B B.size (below_alloc (hbw13))
  clear hbw13
  have F0_0 := A0_0.1; have G0_0 := A0_0.2
  have F0_1 := A0_1.1; have G0_1 := A0_1.2
  have F1_0 := A1_0.1; have G1_0 := A1_0.2
  have F1_1 := A1_1.1; have G1_1 := A1_1.2
  have F2_0 := A2_0.1; have G2_0 := A2_0.2
  have F2_1 := A2_1.1; have G2_1 := A2_1.2
  have F3_0 := A3_0.1; have G3_0 := A3_0.2
  have F3_1 := A3_1.1; have G3_1 := A3_1.2
  have F4_0 := A4_0.1; have G4_0 := A4_0.2
  have F4_1 := A4_1.1; have G4_1 := A4_1.2
  have F5_0 := A5_0.1; have G5_0 := A5_0.2
  have F5_1 := A5_1.1; have G5_1 := A5_1.2
  have Z0 := A0_0.lt
  have Z1 := A1_0.lt
  have Z2 := A2_0.lt
  have Z3 := A3_0.lt
  have Z4 := A4_0.lt
  have Z5 := A5_0.lt
  go_wp2_with fail
  go_ret
  exact ⟨rfl, B⟩

set_option maxHeartbeats 4000000 in
theorem holds_p_num (a b c d p q op o : Int) (u v : Nat) (hb1 : -9223372036854775808 ≤ op) (hb2 : op ≤ 9223372036854775807) (hneg : ¬ op < 0) (ho : op.tmod 12 = o) (A Bh C D R0 R1 S0 S1 H K T0 T1 : Int) (rA : Rg A) (rBh : Rg Bh) (rC : Rg C) (rD : Rg D) (rR0 : Rg R0) (rR1 : Rg R1) (rS0 : Rg S0) (rS1 : Rg S1) (rH : Rg H) (rK : Rg K) (rT0 : Rg T0) (rT1 : Rg T1) (Lk Hk : Int) (rL : Rg Lk) (rHk : Rg Hk) (l1 : R0 ≤ Lk) (l2 : Lk ≤ Hk) (l3 : Hk ≤ R1)
    (hSX : ∀ w, Calls Try.prog 25 #[.int .u64 a, .int .u64 b] w fun e w' => e = .returned (.agg #[.float .f64 (ofKey (A)), .float .f64 (ofKey (Bh))]) ∧ Below w.heap.size w w')
    (hSZ : ∀ w, Calls Try.prog 25 #[.int .u64 c, .int .u64 d] w fun e w' => e = .returned (.agg #[.float .f64 (ofKey (C)), .float .f64 (ofKey (D))]) ∧ Below w.heap.size w w')
    (hPX : ∀ w, Calls Try.prog 40 #[.agg #[.float .f64 (ofKey (A)), .float .f64 (ofKey (Bh))], .int .u64 p] w fun e w' => e = .returned (.float .f64 u) ∧ Below w.heap.size w w')
    (hPZ : ∀ w, Calls Try.prog 40 #[.agg #[.float .f64 (ofKey (C)), .float .f64 (ofKey (D))], .int .u64 q] w fun e w' => e = .returned (.float .f64 v) ∧ Below w.heap.size w w')
    (hA1 : ∀ w, Calls Try.prog 37 #[.int .i64 o, .agg #[.float .f64 (ofKey (A)), .float .f64 (ofKey (Bh))], .agg #[.float .f64 (ofKey (C)), .float .f64 (ofKey (D))]] w fun e w' => e = .returned (.agg #[.float .f64 (ofKey (R0)), .float .f64 (ofKey (R1))]) ∧ Below w.heap.size w w')
    (hA2 : ∀ w, Calls Try.prog 37 #[.int .i64 o, .agg #[.float .f64 (u), .float .f64 (u)], .agg #[.float .f64 (v), .float .f64 (v)]] w fun e w' => e = .returned (.agg #[.float .f64 (ofKey (S0)), .float .f64 (ofKey (S1))]) ∧ Below w.heap.size w w')
    (hRD : ∀ w, Calls Try.prog 35 #[.int .i64 o, .float .f64 u, .float .f64 v, .bool false] w fun e w' => e = .returned (.float .f64 (ofKey Lk)) ∧ Below w.heap.size w w')
    (hRU : ∀ w, Calls Try.prog 35 #[.int .i64 o, .float .f64 u, .float .f64 v, .bool true] w fun e w' => e = .returned (.float .f64 (ofKey Hk)) ∧ Below w.heap.size w w')
    (hW1 : ∀ w, Calls Try.prog 41 #[.agg #[.float .f64 (ofKey (S0)), .float .f64 (ofKey (S1))], .agg #[.float .f64 (ofKey (R0)), .float .f64 (ofKey (R1))]] w fun e w' => e = .returned (.bool true) ∧ Below w.heap.size w w')
    (hHU : ∀ w, Calls Try.prog 33 #[.agg #[.float .f64 (ofKey (A)), .float .f64 (ofKey (Bh))], .agg #[.float .f64 (ofKey (C)), .float .f64 (ofKey (D))]] w fun e w' => e = .returned (.agg #[.float .f64 (ofKey (H)), .float .f64 (ofKey (K))]) ∧ Below w.heap.size w w')
    (hA3 : ∀ w, Calls Try.prog 37 #[.int .i64 o, .agg #[.float .f64 (ofKey (H)), .float .f64 (ofKey (K))], .agg #[.float .f64 (ofKey (C)), .float .f64 (ofKey (D))]] w fun e w' => e = .returned (.agg #[.float .f64 (ofKey (T0)), .float .f64 (ofKey (T1))]) ∧ Below w.heap.size w w')
    (hW2 : ∀ w, Calls Try.prog 41 #[.agg #[.float .f64 (ofKey (R0)), .float .f64 (ofKey (R1))], .agg #[.float .f64 (ofKey (T0)), .float .f64 (ofKey (T1))]] w fun e w' => e = .returned (.bool true) ∧ Below w.heap.size w w') (w : World) :
    Calls Try.prog 12 #[.int .u64 a, .int .u64 b, .int .u64 c, .int .u64 d, .int .u64 p, .int .u64 q, .int .i64 op] w fun e w' => e = .returned (.bool true) ∧ Below w.heap.size w w' := by
  have AL := Lib.hid alive_any
  have nN := nan_NANW
  have SX := Lib.hid hSX
  have SZ := Lib.hid hSZ
  have PX := Lib.hid hPX
  have PZ := Lib.hid hPZ
  have A1 := Lib.hid hA1
  have A2 := Lib.hid hA2
  have RD := Lib.hid hRD
  have RU := Lib.hid hRU
  have W1 := Lib.hid hW1
  have HU := Lib.hid hHU
  have A3 := Lib.hid hA3
  have W2 := Lib.hid hW2
  clear hSX hSZ hPX hPZ hA1 hA2 hRD hRU hW1 hHU hA3 hW2
  go_enter Try.func12, Try.ntmps12
  go_wp2_with fail
  refine (AL.out _).mono ?_
  rintro e w1 ⟨rfl, hbw1⟩
  have B := hbw1
  clear hbw1
  go_wp2_with fail
  refine (SX.out _).mono ?_
  rintro e w2 ⟨rfl, hbw2⟩
  replace B := below_step B B.size (hbw2)
  clear hbw2
  go_wp2_with fail
  refine (SZ.out _).mono ?_
  rintro e w3 ⟨rfl, hbw3⟩
  have nB : w.heap.size ≤ w2.heap.size := B.size
  have A0_0 : At (World.alloc w2 (.cells #[.float .f64 (ofKey (A)), .float .f64 (ofKey (Bh))] 28)) (w2.heap.size) 0 (.float .f64 (ofKey (A))) := ⟨by simp [go_sem], by simp [go_sem]⟩
  replace A0_0 := At.below A0_0 hbw3
  have A0_1 : At (World.alloc w2 (.cells #[.float .f64 (ofKey (A)), .float .f64 (ofKey (Bh))] 28)) (w2.heap.size) 1 (.float .f64 (ofKey (Bh))) := ⟨by simp [go_sem], by simp [go_sem]⟩
  replace A0_1 := At.below A0_1 hbw3
  replace B := below_step B B.size (below_alloc (hbw3))
  clear hbw3
  have F0_0 := A0_0.1; have G0_0 := A0_0.2
  have F0_1 := A0_1.1; have G0_1 := A0_1.2
  have Z0 := A0_0.lt
  go_wp2_with fail
  refine (PX.out _).mono ?_
  rintro e w4 ⟨rfl, hbw4⟩
  clear F0_0 G0_0 F0_1 G0_1 Z0
  have n1 : w2.heap.size < w3.heap.size := At.lt A0_1
  replace A0_0 := At.below (At.alloc (A0_0)) hbw4
  replace A0_1 := At.below (At.alloc (A0_1)) hbw4
  have A1_0 : At (World.alloc w3 (.cells #[.float .f64 (ofKey (C)), .float .f64 (ofKey (D))] 28)) (w3.heap.size) 0 (.float .f64 (ofKey (C))) := ⟨by simp [go_sem], by simp [go_sem]⟩
  replace A1_0 := At.below A1_0 hbw4
  have A1_1 : At (World.alloc w3 (.cells #[.float .f64 (ofKey (C)), .float .f64 (ofKey (D))] 28)) (w3.heap.size) 1 (.float .f64 (ofKey (D))) := ⟨by simp [go_sem], by simp [go_sem]⟩
  replace A1_1 := At.below A1_1 hbw4
  replace B := below_step B B.size (below_alloc (hbw4))
  clear hbw4
  have F0_0 := A0_0.1; have G0_0 := A0_0.2
  have F0_1 := A0_1.1; have G0_1 := A0_1.2
  have F1_0 := A1_0.1; have G1_0 := A1_0.2
  have F1_1 := A1_1.1; have G1_1 := A1_1.2
  have Z0 := A0_0.lt
  have Z1 := A1_0.lt
  go_wp2_with fail
  refine (PZ.out _).mono ?_
  rintro e w5 ⟨rfl, hbw5⟩
  clear F0_0 G0_0 F0_1 G0_1 F1_0 G1_0 F1_1 G1_1 Z0 Z1
  replace A0_0 := At.below (A0_0) hbw5
  replace A0_1 := At.below (A0_1) hbw5
  replace A1_0 := At.below (A1_0) hbw5
  replace A1_1 := At.below (A1_1) hbw5
  replace B := below_step B B.size (hbw5)
  clear hbw5
  have F0_0 := A0_0.1; have G0_0 := A0_0.2
  have F0_1 := A0_1.1; have G0_1 := A0_1.2
  have F1_0 := A1_0.1; have G1_0 := A1_0.2
  have F1_1 := A1_1.1; have G1_1 := A1_1.2
  have Z0 := A0_0.lt
  have Z1 := A1_0.lt
  go_wp2_with fail
  refine (A1.out _).mono ?_
  rintro e w6 ⟨rfl, hbw6⟩
  clear F0_0 G0_0 F0_1 G0_1 F1_0 G1_0 F1_1 G1_1 Z0 Z1
  replace A0_0 := At.below (A0_0) hbw6
  replace A0_1 := At.below (A0_1) hbw6
  replace A1_0 := At.below (A1_0) hbw6
  replace A1_1 := At.below (A1_1) hbw6
  replace B := below_step B B.size (hbw6)
  clear hbw6
  have F0_0 := A0_0.1; have G0_0 := A0_0.2
  have F0_1 := A0_1.1; have G0_1 := A0_1.2
  have F1_0 := A1_0.1; have G1_0 := A1_0.2
  have F1_1 := A1_1.1; have G1_1 := A1_1.2
  have Z0 := A0_0.lt
  have Z1 := A1_0.lt
  go_wp2_with fail
  refine (A2.out _).mono ?_
  rintro e w7 ⟨rfl, hbw7⟩
  clear F0_0 G0_0 F0_1 G0_1 F1_0 G1_0 F1_1 G1_1 Z0 Z1
  have n2 : w3.heap.size < w6.heap.size := At.lt A1_1
  replace A0_0 := At.below (At.alloc (A0_0)) hbw7
  replace A0_1 := At.below (At.alloc (A0_1)) hbw7
  replace A1_0 := At.below (At.alloc (A1_0)) hbw7
  replace A1_1 := At.below (At.alloc (A1_1)) hbw7
  have A2_0 : At (World.alloc w6 (.cells #[.float .f64 (ofKey (R0)), .float .f64 (ofKey (R1))] 28)) (w6.heap.size) 0 (.float .f64 (ofKey (R0))) := ⟨by simp [go_sem], by simp [go_sem]⟩
  replace A2_0 := At.below A2_0 hbw7
  have A2_1 : At (World.alloc w6 (.cells #[.float .f64 (ofKey (R0)), .float .f64 (ofKey (R1))] 28)) (w6.heap.size) 1 (.float .f64 (ofKey (R1))) := ⟨by simp [go_sem], by simp [go_sem]⟩
  replace A2_1 := At.below A2_1 hbw7
  replace B := below_step B B.size (below_alloc (hbw7))
  clear hbw7
  have F0_0 := A0_0.1; have G0_0 := A0_0.2
  have F0_1 := A0_1.1; have G0_1 := A0_1.2
  have F1_0 := A1_0.1; have G1_0 := A1_0.2
  have F1_1 := A1_1.1; have G1_1 := A1_1.2
  have F2_0 := A2_0.1; have G2_0 := A2_0.2
  have F2_1 := A2_1.1; have G2_1 := A2_1.2
  have Z0 := A0_0.lt
  have Z1 := A1_0.lt
  have Z2 := A2_0.lt
  go_wp2_with fail
  refine (RD.out _).mono ?_
  rintro e w8 ⟨rfl, hbw8⟩
  clear F0_0 G0_0 F0_1 G0_1 F1_0 G1_0 F1_1 G1_1 F2_0 G2_0 F2_1 G2_1 Z0 Z1 Z2
  have n3 : w6.heap.size < w7.heap.size := At.lt A2_1
  replace A0_0 := At.below (At.alloc (A0_0)) hbw8
  replace A0_1 := At.below (At.alloc (A0_1)) hbw8
  replace A1_0 := At.below (At.alloc (A1_0)) hbw8
  replace A1_1 := At.below (At.alloc (A1_1)) hbw8
  replace A2_0 := At.below (At.alloc (A2_0)) hbw8
  replace A2_1 := At.below (At.alloc (A2_1)) hbw8
  have A3_0 : At (World.alloc w7 (.cells #[.float .f64 (ofKey (S0)), .float .f64 (ofKey (S1))] 28)) (w7.heap.size) 0 (.float .f64 (ofKey (S0))) := ⟨by simp [go_sem], by simp [go_sem]⟩
  replace A3_0 := At.below A3_0 hbw8
  have A3_1 : At (World.alloc w7 (.cells #[.float .f64 (ofKey (S0)), .float .f64 (ofKey (S1))] 28)) (w7.heap.size) 1 (.float .f64 (ofKey (S1))) := ⟨by simp [go_sem], by simp [go_sem]⟩
  replace A3_1 := At.below A3_1 hbw8
  replace B := below_step B B.size (below_alloc (hbw8))
  clear hbw8
  have F0_0 := A0_0.1; have G0_0 := A0_0.2
  have F0_1 := A0_1.1; have G0_1 := A0_1.2
  have F1_0 := A1_0.1; have G1_0 := A1_0.2
  have F1_1 := A1_1.1; have G1_1 := A1_1.2
  have F2_0 := A2_0.1; have G2_0 := A2_0.2
  have F2_1 := A2_1.1; have G2_1 := A2_1.2
  have F3_0 := A3_0.1; have G3_0 := A3_0.2
  have F3_1 := A3_1.1; have G3_1 := A3_1.2
  have Z0 := A0_0.lt
  have Z1 := A1_0.lt
  have Z2 := A2_0.lt
  have Z3 := A3_0.lt
  go_wp2_with fail
  refine (RU.out _).mono ?_
  rintro e w9 ⟨rfl, hbw9⟩
  clear F0_0 G0_0 F0_1 G0_1 F1_0 G1_0 F1_1 G1_1 F2_0 G2_0 F2_1 G2_1 F3_0 G3_0 F3_1 G3_1 Z0 Z1 Z2 Z3
  replace A0_0 := At.below (A0_0) hbw9
  replace A0_1 := At.below (A0_1) hbw9
  replace A1_0 := At.below (A1_0) hbw9
  replace A1_1 := At.below (A1_1) hbw9
  replace A2_0 := At.below (A2_0) hbw9
  replace A2_1 := At.below (A2_1) hbw9
  replace A3_0 := At.below (A3_0) hbw9
  replace A3_1 := At.below (A3_1) hbw9
  replace B := below_step B B.size (hbw9)
  clear hbw9
  have F0_0 := A0_0.1; have G0_0 := A0_0.2
  have F0_1 := A0_1.1; have G0_1 := A0_1.2
  have F1_0 := A1_0.1; have G1_0 := A1_0.2
  have F1_1 := A1_1.1; have G1_1 := A1_1.2
  have F2_0 := A2_0.1; have G2_0 := A2_0.2
  have F2_1 := A2_1.1; have G2_1 := A2_1.2
  have F3_0 := A3_0.1; have G3_0 := A3_0.2
  have F3_1 := A3_1.1; have G3_1 := A3_1.2
  have Z0 := A0_0.lt
  have Z1 := A1_0.lt
  have Z2 := A2_0.lt
  have Z3 := A3_0.lt
  go_wp2_with fail
  refine (W1.out _).mono ?_
  rintro e w10 ⟨rfl, hbw10⟩
  clear F0_0 G0_0 F0_1 G0_1 F1_0 G1_0 F1_1 G1_1 F2_0 G2_0 F2_1 G2_1 F3_0 G3_0 F3_1 G3_1 Z0 Z1 Z2 Z3
  replace A0_0 := At.below (A0_0) hbw10
  replace A0_1 := At.below (A0_1) hbw10
  replace A1_0 := At.below (A1_0) hbw10
  replace A1_1 := At.below (A1_1) hbw10
  replace A2_0 := At.below (A2_0) hbw10
  replace A2_1 := At.below (A2_1) hbw10
  replace A3_0 := At.below (A3_0) hbw10
  replace A3_1 := At.below (A3_1) hbw10
  replace B := below_step B B.size (hbw10)
  clear hbw10
  have F0_0 := A0_0.1; have G0_0 := A0_0.2
  have F0_1 := A0_1.1; have G0_1 := A0_1.2
  have F1_0 := A1_0.1; have G1_0 := A1_0.2
  have F1_1 := A1_1.1; have G1_1 := A1_1.2
  have F2_0 := A2_0.1; have G2_0 := A2_0.2
  have F2_1 := A2_1.1; have G2_1 := A2_1.2
  have F3_0 := A3_0.1; have G3_0 := A3_0.2
  have F3_1 := A3_1.1; have G3_1 := A3_1.2
  have Z0 := A0_0.lt
  have Z1 := A1_0.lt
  have Z2 := A2_0.lt
  have Z3 := A3_0.lt
  go_wp2_with fail
  refine (HU.out _).mono ?_
  rintro e w11 ⟨rfl, hbw11⟩
  clear F0_0 G0_0 F0_1 G0_1 F1_0 G1_0 F1_1 G1_1 F2_0 G2_0 F2_1 G2_1 F3_0 G3_0 F3_1 G3_1 Z0 Z1 Z2 Z3
  replace A0_0 := At.below (A0_0) hbw11
  replace A0_1 := At.below (A0_1) hbw11
  replace A1_0 := At.below (A1_0) hbw11
  replace A1_1 := At.below (A1_1) hbw11
  replace A2_0 := At.below (A2_0) hbw11
  replace A2_1 := At.below (A2_1) hbw11
  replace A3_0 := At.below (A3_0) hbw11
  replace A3_1 := At.below (A3_1) hbw11
  replace B := below_step B B.size (hbw11)
  clear hbw11
  have F0_0 := A0_0.1; have G0_0 := A0_0.2
  have F0_1 := A0_1.1; have G0_1 := A0_1.2
  have F1_0 := A1_0.1; have G1_0 := A1_0.2
  have F1_1 := A1_1.1; have G1_1 := A1_1.2
  have F2_0 := A2_0.1; have G2_0 := A2_0.2
  have F2_1 := A2_1.1; have G2_1 := A2_1.2
  have F3_0 := A3_0.1; have G3_0 := A3_0.2
  have F3_1 := A3_1.1; have G3_1 := A3_1.2
  have Z0 := A0_0.lt
  have Z1 := A1_0.lt
  have Z2 := A2_0.lt
  have Z3 := A3_0.lt
  go_wp2_with fail
  refine (A3.out _).mono ?_
  rintro e w12 ⟨rfl, hbw12⟩
  clear F0_0 G0_0 F0_1 G0_1 F1_0 G1_0 F1_1 G1_1 F2_0 G2_0 F2_1 G2_1 F3_0 G3_0 F3_1 G3_1 Z0 Z1 Z2 Z3
  have n4 : w7.heap.size < w11.heap.size := At.lt A3_1
  replace A0_0 := At.below (At.alloc (A0_0)) hbw12
  replace A0_1 := At.below (At.alloc (A0_1)) hbw12
  replace A1_0 := At.below (At.alloc (A1_0)) hbw12
  replace A1_1 := At.below (At.alloc (A1_1)) hbw12
  replace A2_0 := At.below (At.alloc (A2_0)) hbw12
  replace A2_1 := At.below (At.alloc (A2_1)) hbw12
  replace A3_0 := At.below (At.alloc (A3_0)) hbw12
  replace A3_1 := At.below (At.alloc (A3_1)) hbw12
  have A4_0 : At (World.alloc w11 (.cells #[.float .f64 (ofKey (H)), .float .f64 (ofKey (K))] 28)) (w11.heap.size) 0 (.float .f64 (ofKey (H))) := ⟨by simp [go_sem], by simp [go_sem]⟩
  replace A4_0 := At.below A4_0 hbw12
  have A4_1 : At (World.alloc w11 (.cells #[.float .f64 (ofKey (H)), .float .f64 (ofKey (K))] 28)) (w11.heap.size) 1 (.float .f64 (ofKey (K))) := ⟨by simp [go_sem], by simp [go_sem]⟩
  replace A4_1 := At.below A4_1 hbw12
  replace B := below_step B B.size (below_alloc (hbw12))
  clear hbw12
  have F0_0 := A0_0.1; have G0_0 := A0_0.2
  have F0_1 := A0_1.1; have G0_1 := A0_1.2
  have F1_0 := A1_0.1; have G1_0 := A1_0.2
  have F1_1 := A1_1.1; have G1_1 := A1_1.2
  have F2_0 := A2_0.1; have G2_0 := A2_0.2
  have F2_1 := A2_1.1; have G2_1 := A2_1.2
  have F3_0 := A3_0.1; have G3_0 := A3_0.2
  have F3_1 := A3_1.1; have G3_1 := A3_1.2
  have F4_0 := A4_0.1; have G4_0 := A4_0.2
  have F4_1 := A4_1.1; have G4_1 := A4_1.2
  have Z0 := A0_0.lt
  have Z1 := A1_0.lt
  have Z2 := A2_0.lt
  have Z3 := A3_0.lt
  have Z4 := A4_0.lt
  go_wp2_with fail
  refine (W2.out _).mono ?_
  rintro e w13 ⟨rfl, hbw13⟩
  clear F0_0 G0_0 F0_1 G0_1 F1_0 G1_0 F1_1 G1_1 F2_0 G2_0 F2_1 G2_1 F3_0 G3_0 F3_1 G3_1 F4_0 G4_0 F4_1 G4_1 Z0 Z1 Z2 Z3 Z4
  have n5 : w11.heap.size < w12.heap.size := At.lt A4_1
  replace A0_0 := At.below (At.alloc (A0_0)) hbw13
  replace A0_1 := At.below (At.alloc (A0_1)) hbw13
  replace A1_0 := At.below (At.alloc (A1_0)) hbw13
  replace A1_1 := At.below (At.alloc (A1_1)) hbw13
  replace A2_0 := At.below (At.alloc (A2_0)) hbw13
  replace A2_1 := At.below (At.alloc (A2_1)) hbw13
  replace A3_0 := At.below (At.alloc (A3_0)) hbw13
  replace A3_1 := At.below (At.alloc (A3_1)) hbw13
  replace A4_0 := At.below (At.alloc (A4_0)) hbw13
  replace A4_1 := At.below (At.alloc (A4_1)) hbw13
  have A5_0 : At (World.alloc w12 (.cells #[.float .f64 (ofKey (T0)), .float .f64 (ofKey (T1))] 28)) (w12.heap.size) 0 (.float .f64 (ofKey (T0))) := ⟨by simp [go_sem], by simp [go_sem]⟩
  replace A5_0 := At.below A5_0 hbw13
  have A5_1 : At (World.alloc w12 (.cells #[.float .f64 (ofKey (T0)), .float .f64 (ofKey (T1))] 28)) (w12.heap.size) 1 (.float .f64 (ofKey (T1))) := ⟨by simp [go_sem], by simp [go_sem]⟩
  replace A5_1 := At.below A5_1 hbw13
  replace B := below_step B B.size (below_alloc (hbw13))
  clear hbw13
  have F0_0 := A0_0.1; have G0_0 := A0_0.2
  have F0_1 := A0_1.1; have G0_1 := A0_1.2
  have F1_0 := A1_0.1; have G1_0 := A1_0.2
  have F1_1 := A1_1.1; have G1_1 := A1_1.2
  have F2_0 := A2_0.1; have G2_0 := A2_0.2
  have F2_1 := A2_1.1; have G2_1 := A2_1.2
  have F3_0 := A3_0.1; have G3_0 := A3_0.2
  have F3_1 := A3_1.1; have G3_1 := A3_1.2
  have F4_0 := A4_0.1; have G4_0 := A4_0.2
  have F4_1 := A4_1.1; have G4_1 := A4_1.2
  have F5_0 := A5_0.1; have G5_0 := A5_0.2
  have F5_1 := A5_1.1; have G5_1 := A5_1.2
  have Z0 := A0_0.lt
  have Z1 := A1_0.lt
  have Z2 := A2_0.lt
  have Z3 := A3_0.lt
  have Z4 := A4_0.lt
  have Z5 := A5_0.lt
  go_wp2_with fail
  go_ret
  exact ⟨rfl, B⟩


end Go.Proofs.Yteephgpefhodnaa
