/- The walk of Signs. -/
import Derived.Test.YteephgpefhodnaaKA
import Derived.Test.YteephgpefhodnaaR2
import Derived.LoopTactic
namespace Go.Proofs.Yteephgpefhodnaa
open Go.RowKit Go.Sort Go.Fl
set_option linter.unusedSimpArgs false
set_option linter.unusedVariables false

set_option maxHeartbeats 4000000 in
theorem signs_walk (a b c d : Int) (A Bh C D P Q L H U V E F L6 H6 L8 H8 L10 H10 L11 H11 : Int) (rA : Rg A) (rBh : Rg Bh) (rC : Rg C) (rD : Rg D) (rP : Rg P) (rQ : Rg Q) (rL : Rg L) (rH : Rg H) (rU : Rg U) (rV : Rg V) (rE : Rg E) (rF : Rg F) (rL6 : Rg L6) (rH6 : Rg H6) (rL8 : Rg L8) (rH8 : Rg H8) (rL10 : Rg L10) (rH10 : Rg H10) (rL11 : Rg L11) (rH11 : Rg H11)
    (hSX : ∀ w, Calls Try.prog 25 #[.int .u64 a, .int .u64 b] w fun e w' => e = .returned (.agg #[.float .f64 (ofKey (A)), .float .f64 (ofKey (Bh))]) ∧ Below w.heap.size w w')
    (hSZ : ∀ w, Calls Try.prog 25 #[.int .u64 c, .int .u64 d] w fun e w' => e = .returned (.agg #[.float .f64 (ofKey (C)), .float .f64 (ofKey (D))]) ∧ Below w.heap.size w w')
    (hA1 : ∀ w, Calls Try.prog 37 #[.int .i64 0, .agg #[.float .f64 (ofKey (C)), .float .f64 (ofKey (D))], .agg #[.float .f64 (ofKey (C)), .float .f64 (ofKey (D))]] w fun e w' => e = .returned (.agg #[.float .f64 (ofKey (-D)), .float .f64 (ofKey (-C))]) ∧ Below w.heap.size w w')
    (hA2 : ∀ w, Calls Try.prog 37 #[.int .i64 0, .agg #[.float .f64 (ofKey (A)), .float .f64 (ofKey (Bh))], .agg #[.float .f64 (ofKey (A)), .float .f64 (ofKey (Bh))]] w fun e w' => e = .returned (.agg #[.float .f64 (ofKey (-Bh)), .float .f64 (ofKey (-A))]) ∧ Below w.heap.size w w')
    (hA3 : ∀ w, Calls Try.prog 37 #[.int .i64 7, .agg #[.float .f64 (ofKey (A)), .float .f64 (ofKey (Bh))], .agg #[.float .f64 (ofKey (C)), .float .f64 (ofKey (D))]] w fun e w' => e = .returned (.agg #[.float .f64 (ofKey (P)), .float .f64 (ofKey (Q))]) ∧ Below w.heap.size w w')
    (hA4 : ∀ w, Calls Try.prog 37 #[.int .i64 6, .agg #[.float .f64 (ofKey (A)), .float .f64 (ofKey (Bh))], .agg #[.float .f64 (ofKey (-D)), .float .f64 (ofKey (-C))]] w fun e w' => e = .returned (.agg #[.float .f64 (ofKey (P)), .float .f64 (ofKey (Q))]) ∧ Below w.heap.size w w')
    (hA5 : ∀ w, Calls Try.prog 37 #[.int .i64 7, .agg #[.float .f64 (ofKey (C)), .float .f64 (ofKey (D))], .agg #[.float .f64 (ofKey (A)), .float .f64 (ofKey (Bh))]] w fun e w' => e = .returned (.agg #[.float .f64 (ofKey (-Q)), .float .f64 (ofKey (-P))]) ∧ Below w.heap.size w w')
    (hA6 : ∀ w, Calls Try.prog 37 #[.int .i64 0, .agg #[.float .f64 (ofKey (-Q)), .float .f64 (ofKey (-P))], .agg #[.float .f64 (ofKey (-Q)), .float .f64 (ofKey (-P))]] w fun e w' => e = .returned (.agg #[.float .f64 (ofKey (P)), .float .f64 (ofKey (Q))]) ∧ Below w.heap.size w w')
    (hS6 : ∀ w, Calls Try.prog 37 #[.int .i64 6, .agg #[.float .f64 (ofKey (A)), .float .f64 (ofKey (Bh))], .agg #[.float .f64 (ofKey (C)), .float .f64 (ofKey (D))]] w fun e w' => e = .returned (.agg #[.float .f64 (ofKey (L6)), .float .f64 (ofKey (H6))]) ∧ Below w.heap.size w w')
    (hT6 : ∀ w, Calls Try.prog 37 #[.int .i64 6, .agg #[.float .f64 (ofKey (C)), .float .f64 (ofKey (D))], .agg #[.float .f64 (ofKey (A)), .float .f64 (ofKey (Bh))]] w fun e w' => e = .returned (.agg #[.float .f64 (ofKey (L6)), .float .f64 (ofKey (H6))]) ∧ Below w.heap.size w w')
    (hS8 : ∀ w, Calls Try.prog 37 #[.int .i64 8, .agg #[.float .f64 (ofKey (A)), .float .f64 (ofKey (Bh))], .agg #[.float .f64 (ofKey (C)), .float .f64 (ofKey (D))]] w fun e w' => e = .returned (.agg #[.float .f64 (ofKey (L8)), .float .f64 (ofKey (H8))]) ∧ Below w.heap.size w w')
    (hT8 : ∀ w, Calls Try.prog 37 #[.int .i64 8, .agg #[.float .f64 (ofKey (C)), .float .f64 (ofKey (D))], .agg #[.float .f64 (ofKey (A)), .float .f64 (ofKey (Bh))]] w fun e w' => e = .returned (.agg #[.float .f64 (ofKey (L8)), .float .f64 (ofKey (H8))]) ∧ Below w.heap.size w w')
    (hS10 : ∀ w, Calls Try.prog 37 #[.int .i64 10, .agg #[.float .f64 (ofKey (A)), .float .f64 (ofKey (Bh))], .agg #[.float .f64 (ofKey (C)), .float .f64 (ofKey (D))]] w fun e w' => e = .returned (.agg #[.float .f64 (ofKey (L10)), .float .f64 (ofKey (H10))]) ∧ Below w.heap.size w w')
    (hT10 : ∀ w, Calls Try.prog 37 #[.int .i64 10, .agg #[.float .f64 (ofKey (C)), .float .f64 (ofKey (D))], .agg #[.float .f64 (ofKey (A)), .float .f64 (ofKey (Bh))]] w fun e w' => e = .returned (.agg #[.float .f64 (ofKey (L10)), .float .f64 (ofKey (H10))]) ∧ Below w.heap.size w w')
    (hS11 : ∀ w, Calls Try.prog 37 #[.int .i64 11, .agg #[.float .f64 (ofKey (A)), .float .f64 (ofKey (Bh))], .agg #[.float .f64 (ofKey (C)), .float .f64 (ofKey (D))]] w fun e w' => e = .returned (.agg #[.float .f64 (ofKey (L11)), .float .f64 (ofKey (H11))]) ∧ Below w.heap.size w w')
    (hT11 : ∀ w, Calls Try.prog 37 #[.int .i64 11, .agg #[.float .f64 (ofKey (C)), .float .f64 (ofKey (D))], .agg #[.float .f64 (ofKey (A)), .float .f64 (ofKey (Bh))]] w fun e w' => e = .returned (.agg #[.float .f64 (ofKey (L11)), .float .f64 (ofKey (H11))]) ∧ Below w.heap.size w w')
    (hB1 : ∀ w, Calls Try.prog 37 #[.int .i64 1, .agg #[.float .f64 (ofKey (A)), .float .f64 (ofKey (Bh))], .agg #[.float .f64 (ofKey (A)), .float .f64 (ofKey (Bh))]] w fun e w' => e = .returned (.agg #[.float .f64 (ofKey (L)), .float .f64 (ofKey (H))]) ∧ Below w.heap.size w w')
    (hB2 : ∀ w, Calls Try.prog 37 #[.int .i64 8, .agg #[.float .f64 (ofKey (L)), .float .f64 (ofKey (H))], .agg #[.float .f64 (ofKey (L)), .float .f64 (ofKey (H))]] w fun e w' => e = .returned (.agg #[.float .f64 (ofKey (U)), .float .f64 (ofKey (V))]) ∧ Below w.heap.size w w')
    (hB3 : ∀ w, Calls Try.prog 37 #[.int .i64 2, .agg #[.float .f64 (ofKey (A)), .float .f64 (ofKey (Bh))], .agg #[.float .f64 (ofKey (A)), .float .f64 (ofKey (Bh))]] w fun e w' => e = .returned (.agg #[.float .f64 (ofKey (U)), .float .f64 (ofKey (V))]) ∧ Below w.heap.size w w')
    (hB4 : ∀ w, Calls Try.prog 37 #[.int .i64 11, .agg #[.float .f64 (ofKey (-Bh)), .float .f64 (ofKey (-A))], .agg #[.float .f64 (ofKey (-D)), .float .f64 (ofKey (-C))]] w fun e w' => e = .returned (.agg #[.float .f64 (ofKey (E)), .float .f64 (ofKey (F))]) ∧ Below w.heap.size w w')
    (hB5 : ∀ w, Calls Try.prog 37 #[.int .i64 0, .agg #[.float .f64 (ofKey (E)), .float .f64 (ofKey (F))], .agg #[.float .f64 (ofKey (E)), .float .f64 (ofKey (F))]] w fun e w' => e = .returned (.agg #[.float .f64 (ofKey (-F)), .float .f64 (ofKey (-E))]) ∧ Below w.heap.size w w')
    (hB6 : ∀ w, Calls Try.prog 37 #[.int .i64 10, .agg #[.float .f64 (ofKey (A)), .float .f64 (ofKey (Bh))], .agg #[.float .f64 (ofKey (C)), .float .f64 (ofKey (D))]] w fun e w' => e = .returned (.agg #[.float .f64 (ofKey (-F)), .float .f64 (ofKey (-E))]) ∧ Below w.heap.size w w') (w : World) :
    Calls Try.prog 11 #[.int .u64 a, .int .u64 b, .int .u64 c, .int .u64 d] w fun e w' => e = .returned (.bool true) ∧ Below w.heap.size w w' := by
  have AL := Lib.hid alive_any
  have he := eqiv
  have mA := Rg_neg rA
  have mBh := Rg_neg rBh
  have mC := Rg_neg rC
  have mD := Rg_neg rD
  have mP := Rg_neg rP
  have mQ := Rg_neg rQ
  have mE := Rg_neg rE
  have mF := Rg_neg rF
  have SX := Lib.hid hSX
  have SZ := Lib.hid hSZ
  have A1 := Lib.hid hA1
  have A2 := Lib.hid hA2
  have A3 := Lib.hid hA3
  have A4 := Lib.hid hA4
  have A5 := Lib.hid hA5
  have A6 := Lib.hid hA6
  have S6 := Lib.hid hS6
  have T6 := Lib.hid hT6
  have S8 := Lib.hid hS8
  have T8 := Lib.hid hT8
  have S10 := Lib.hid hS10
  have T10 := Lib.hid hT10
  have S11 := Lib.hid hS11
  have T11 := Lib.hid hT11
  have B1 := Lib.hid hB1
  have B2 := Lib.hid hB2
  have B3 := Lib.hid hB3
  have B4 := Lib.hid hB4
  have B5 := Lib.hid hB5
  have B6 := Lib.hid hB6
  clear hSX hSZ hA1 hA2 hA3 hA4 hA5 hA6 hS6 hT6 hS8 hT8 hS10 hT10 hS11 hT11 hB1 hB2 hB3 hB4 hB5 hB6
  go_enter Try.func11, Try.ntmps11
  go_wp2_with fail
  refine (SX.out _).mono ?_
  rintro e w1 ⟨rfl, hbw1⟩
  have B := hbw1
  clear hbw1
  go_wp2_with fail
  refine (SZ.out _).mono ?_
  rintro e w2 ⟨rfl, hbw2⟩
  have nB : w.heap.size ≤ w1.heap.size := B.size
  have A0_0 : At (World.alloc w1 (.cells #[.float .f64 (ofKey (A)), .float .f64 (ofKey (Bh))] 28)) (w1.heap.size) 0 (.float .f64 (ofKey (A))) := ⟨by simp [go_sem], by simp [go_sem]⟩
  replace A0_0 := At.below A0_0 hbw2
  have A0_1 : At (World.alloc w1 (.cells #[.float .f64 (ofKey (A)), .float .f64 (ofKey (Bh))] 28)) (w1.heap.size) 1 (.float .f64 (ofKey (Bh))) := ⟨by simp [go_sem], by simp [go_sem]⟩
  replace A0_1 := At.below A0_1 hbw2
  replace B := below_step B B.size (below_alloc (hbw2))
  clear hbw2
  have F0_0 := A0_0.1; have G0_0 := A0_0.2
  have F0_1 := A0_1.1; have G0_1 := A0_1.2
  have Z0 := A0_0.lt
  go_wp2_with fail
  refine (A1.out _).mono ?_
  rintro e w3 ⟨rfl, hbw3⟩
  clear F0_0 G0_0 F0_1 G0_1 Z0
  have n1 : w1.heap.size < w2.heap.size := At.lt A0_1
  replace A0_0 := At.below (At.alloc (A0_0)) hbw3
  replace A0_1 := At.below (At.alloc (A0_1)) hbw3
  have A1_0 : At (World.alloc w2 (.cells #[.float .f64 (ofKey (C)), .float .f64 (ofKey (D))] 28)) (w2.heap.size) 0 (.float .f64 (ofKey (C))) := ⟨by simp [go_sem], by simp [go_sem]⟩
  replace A1_0 := At.below A1_0 hbw3
  have A1_1 : At (World.alloc w2 (.cells #[.float .f64 (ofKey (C)), .float .f64 (ofKey (D))] 28)) (w2.heap.size) 1 (.float .f64 (ofKey (D))) := ⟨by simp [go_sem], by simp [go_sem]⟩
  replace A1_1 := At.below A1_1 hbw3
  replace B := below_step B B.size (below_alloc (hbw3))
  clear hbw3
  have F0_0 := A0_0.1; have G0_0 := A0_0.2
  have F0_1 := A0_1.1; have G0_1 := A0_1.2
  have F1_0 := A1_0.1; have G1_0 := A1_0.2
  have F1_1 := A1_1.1; have G1_1 := A1_1.2
  have Z0 := A0_0.lt
  have Z1 := A1_0.lt
  go_wp2_with fail
  refine (A2.out _).mono ?_
  rintro e w4 ⟨rfl, hbw4⟩
  clear F0_0 G0_0 F0_1 G0_1 F1_0 G1_0 F1_1 G1_1 Z0 Z1
  have n2 : w2.heap.size < w3.heap.size := At.lt A1_1
  replace A0_0 := At.below (At.alloc (A0_0)) hbw4
  replace A0_1 := At.below (At.alloc (A0_1)) hbw4
  replace A1_0 := At.below (At.alloc (A1_0)) hbw4
  replace A1_1 := At.below (At.alloc (A1_1)) hbw4
  have A2_0 : At (World.alloc w3 (.cells #[.float .f64 (ofKey (-D)), .float .f64 (ofKey (-C))] 28)) (w3.heap.size) 0 (.float .f64 (ofKey (-D))) := ⟨by simp [go_sem], by simp [go_sem]⟩
  replace A2_0 := At.below A2_0 hbw4
  have A2_1 : At (World.alloc w3 (.cells #[.float .f64 (ofKey (-D)), .float .f64 (ofKey (-C))] 28)) (w3.heap.size) 1 (.float .f64 (ofKey (-C))) := ⟨by simp [go_sem], by simp [go_sem]⟩
  replace A2_1 := At.below A2_1 hbw4
  replace B := below_step B B.size (below_alloc (hbw4))
  clear hbw4
  have F0_0 := A0_0.1; have G0_0 := A0_0.2
  have F0_1 := A0_1.1; have G0_1 := A0_1.2
  have F1_0 := A1_0.1; have G1_0 := A1_0.2
  have F1_1 := A1_1.1; have G1_1 := A1_1.2
  have F2_0 := A2_0.1; have G2_0 := A2_0.2
  have F2_1 := A2_1.1; have G2_1 := A2_1.2
  have Z0 := A0_0.lt
  have Z1 := A1_0.lt
  have Z2 := A2_0.lt
  go_wp2_with fail
  refine (A3.out _).mono ?_
  rintro e w5 ⟨rfl, hbw5⟩
  clear F0_0 G0_0 F0_1 G0_1 F1_0 G1_0 F1_1 G1_1 F2_0 G2_0 F2_1 G2_1 Z0 Z1 Z2
  have n3 : w3.heap.size < w4.heap.size := At.lt A2_1
  replace A0_0 := At.below (At.alloc (A0_0)) hbw5
  replace A0_1 := At.below (At.alloc (A0_1)) hbw5
  replace A1_0 := At.below (At.alloc (A1_0)) hbw5
  replace A1_1 := At.below (At.alloc (A1_1)) hbw5
  replace A2_0 := At.below (At.alloc (A2_0)) hbw5
  replace A2_1 := At.below (At.alloc (A2_1)) hbw5
  have A3_0 : At (World.alloc w4 (.cells #[.float .f64 (ofKey (-Bh)), .float .f64 (ofKey (-A))] 28)) (w4.heap.size) 0 (.float .f64 (ofKey (-Bh))) := ⟨by simp [go_sem], by simp [go_sem]⟩
  replace A3_0 := At.below A3_0 hbw5
  have A3_1 : At (World.alloc w4 (.cells #[.float .f64 (ofKey (-Bh)), .float .f64 (ofKey (-A))] 28)) (w4.heap.size) 1 (.float .f64 (ofKey (-A))) := ⟨by simp [go_sem], by simp [go_sem]⟩
  replace A3_1 := At.below A3_1 hbw5
  replace B := below_step B B.size (below_alloc (hbw5))
  clear hbw5
  have F0_0 := A0_0.1; have G0_0 := A0_0.2
  have F0_1 := A0_1.1; have G0_1 := A0_1.2
  have F1_0 := A1_0.1; have G1_0 := A1_0.2
  have F1_1 := A1_1.1; have G1_1 := A1_1.2
  have F2_0 := A2_0.1; have G2_0 := A2_0.2
  have F2_1 := A2_1.1; have G2_1 := A2_1.2
  have F3_0 := A3_0.1; have G3_0 := A3_0.2
  have F3_1 := A3_1.1; have G3_1 := A3_1.2
  have Z0 := A0_0.lt
  have Z1 := A1_0.lt
  have Z2 := A2_0.lt
  have Z3 := A3_0.lt
  go_wp2_with fail
  refine (A4.out _).mono ?_
  rintro e w6 ⟨rfl, hbw6⟩
  clear F0_0 G0_0 F0_1 G0_1 F1_0 G1_0 F1_1 G1_1 F2_0 G2_0 F2_1 G2_1 F3_0 G3_0 F3_1 G3_1 Z0 Z1 Z2 Z3
  have n4 : w4.heap.size < w5.heap.size := At.lt A3_1
  replace A0_0 := At.below (At.alloc (A0_0)) hbw6
  replace A0_1 := At.below (At.alloc (A0_1)) hbw6
  replace A1_0 := At.below (At.alloc (A1_0)) hbw6
  replace A1_1 := At.below (At.alloc (A1_1)) hbw6
  replace A2_0 := At.below (At.alloc (A2_0)) hbw6
  replace A2_1 := At.below (At.alloc (A2_1)) hbw6
  replace A3_0 := At.below (At.alloc (A3_0)) hbw6
  replace A3_1 := At.below (At.alloc (A3_1)) hbw6
  have A4_0 : At (World.alloc w5 (.cells #[.float .f64 (ofKey (P)), .float .f64 (ofKey (Q))] 28)) (w5.heap.size) 0 (.float .f64 (ofKey (P))) := ⟨by simp [go_sem], by simp [go_sem]⟩
  replace A4_0 := At.below A4_0 hbw6
  have A4_1 : At (World.alloc w5 (.cells #[.float .f64 (ofKey (P)), .float .f64 (ofKey (Q))] 28)) (w5.heap.size) 1 (.float .f64 (ofKey (Q))) := ⟨by simp [go_sem], by simp [go_sem]⟩
  replace A4_1 := At.below A4_1 hbw6
  replace B := below_step B B.size (below_alloc (hbw6))
  clear hbw6
  have F0_0 := A0_0.1; have G0_0 := A0_0.2
  have F0_1 := A0_1.1; have G0_1 := A0_1.2
  have F1_0 := A1_0.1; have G1_0 := A1_0.2
  have F1_1 := A1_1.1; have G1_1 := A1_1.2
  have F2_0 := A2_0.1; have G2_0 := A2_0.2
  have F2_1 := A2_1.1; have G2_1 := A2_1.2
  have F3_0 := A3_0.1; have G3_0 := A3_0.2
  have F3_1 := A3_1.1; have G3_1 := A3_1.2
  have F4_0 := A4_0.1; have G4_0 := A4_0.2
  have F4_1 := A4_1.1; have G4_1 := A4_1.2
  have Z0 := A0_0.lt
  have Z1 := A1_0.lt
  have Z2 := A2_0.lt
  have Z3 := A3_0.lt
  have Z4 := A4_0.lt
  go_wp2_with fail
  refine (A5.out _).mono ?_
  rintro e w7 ⟨rfl, hbw7⟩
  clear F0_0 G0_0 F0_1 G0_1 F1_0 G1_0 F1_1 G1_1 F2_0 G2_0 F2_1 G2_1 F3_0 G3_0 F3_1 G3_1 F4_0 G4_0 F4_1 G4_1 Z0 Z1 Z2 Z3 Z4
  have n5 : w5.heap.size < w6.heap.size := At.lt A4_1
  replace A0_0 := At.below (At.alloc (A0_0)) hbw7
  replace A0_1 := At.below (At.alloc (A0_1)) hbw7
  replace A1_0 := At.below (At.alloc (A1_0)) hbw7
  replace A1_1 := At.below (At.alloc (A1_1)) hbw7
  replace A2_0 := At.below (At.alloc (A2_0)) hbw7
  replace A2_1 := At.below (At.alloc (A2_1)) hbw7
  replace A3_0 := At.below (At.alloc (A3_0)) hbw7
  replace A3_1 := At.below (At.alloc (A3_1)) hbw7
  replace A4_0 := At.below (At.alloc (A4_0)) hbw7
  replace A4_1 := At.below (At.alloc (A4_1)) hbw7
  have A5_0 : At (World.alloc w6 (.cells #[.float .f64 (ofKey (P)), .float .f64 (ofKey (Q))] 28)) (w6.heap.size) 0 (.float .f64 (ofKey (P))) := ⟨by simp [go_sem], by simp [go_sem]⟩
  replace A5_0 := At.below A5_0 hbw7
  have A5_1 : At (World.alloc w6 (.cells #[.float .f64 (ofKey (P)), .float .f64 (ofKey (Q))] 28)) (w6.heap.size) 1 (.float .f64 (ofKey (Q))) := ⟨by simp [go_sem], by simp [go_sem]⟩
  replace A5_1 := At.below A5_1 hbw7
  replace B := below_step B B.size (below_alloc (hbw7))
  clear hbw7
  have F0_0 := A0_0.1; have G0_0 := A0_0.2
  have F0_1 := A0_1.1; have G0_1 := A0_1.2
  have F1_0 := A1_0.1; have G1_0 := A1_0.2
  have F1_1 := A1_1.1; have G1_1 := A1_1.2
  have F2_0 := A2_0.1; have G2_0 := A2_0.2
  have F2_1 := A2_1.1; have G2_1 := A2_1.2
  have F3_0 := A3_0.1; have G3_0 := A3_0.2
  have F3_1 := A3_1.1; have G3_1 := A3_1.2
  have F4_0 := A4_0.1; have G4_0 := A4_0.2
  have F4_1 := A4_1.1; have G4_1 := A4_1.2
  have F5_0 := A5_0.1; have G5_0 := A5_0.2
  have F5_1 := A5_1.1; have G5_1 := A5_1.2
  have Z0 := A0_0.lt
  have Z1 := A1_0.lt
  have Z2 := A2_0.lt
  have Z3 := A3_0.lt
  have Z4 := A4_0.lt
  have Z5 := A5_0.lt
  go_wp2_with fail
  refine (A6.out _).mono ?_
  rintro e w8 ⟨rfl, hbw8⟩
  clear F0_0 G0_0 F0_1 G0_1 F1_0 G1_0 F1_1 G1_1 F2_0 G2_0 F2_1 G2_1 F3_0 G3_0 F3_1 G3_1 F4_0 G4_0 F4_1 G4_1 F5_0 G5_0 F5_1 G5_1 Z0 Z1 Z2 Z3 Z4 Z5
  have n6 : w6.heap.size < w7.heap.size := At.lt A5_1
  replace A0_0 := At.below (At.alloc (A0_0)) hbw8
  replace A0_1 := At.below (At.alloc (A0_1)) hbw8
  replace A1_0 := At.below (At.alloc (A1_0)) hbw8
  replace A1_1 := At.below (At.alloc (A1_1)) hbw8
  replace A2_0 := At.below (At.alloc (A2_0)) hbw8
  replace A2_1 := At.below (At.alloc (A2_1)) hbw8
  replace A3_0 := At.below (At.alloc (A3_0)) hbw8
  replace A3_1 := At.below (At.alloc (A3_1)) hbw8
  replace A4_0 := At.below (At.alloc (A4_0)) hbw8
  replace A4_1 := At.below (At.alloc (A4_1)) hbw8
  replace A5_0 := At.below (At.alloc (A5_0)) hbw8
  replace A5_1 := At.below (At.alloc (A5_1)) hbw8
  have A6_0 : At (World.alloc w7 (.cells #[.float .f64 (ofKey (-Q)), .float .f64 (ofKey (-P))] 28)) (w7.heap.size) 0 (.float .f64 (ofKey (-Q))) := ⟨by simp [go_sem], by simp [go_sem]⟩
  replace A6_0 := At.below A6_0 hbw8
  have A6_1 : At (World.alloc w7 (.cells #[.float .f64 (ofKey (-Q)), .float .f64 (ofKey (-P))] 28)) (w7.heap.size) 1 (.float .f64 (ofKey (-P))) := ⟨by simp [go_sem], by simp [go_sem]⟩
  replace A6_1 := At.below A6_1 hbw8
  replace B := below_step B B.size (below_alloc (hbw8))
  clear hbw8
  have F0_0 := A0_0.1; have G0_0 := A0_0.2
  have F0_1 := A0_1.1; have G0_1 := A0_1.2
  have F1_0 := A1_0.1; have G1_0 := A1_0.2
  have F1_1 := A1_1.1; have G1_1 := A1_1.2
  have F2_0 := A2_0.1; have G2_0 := A2_0.2
  have F2_1 := A2_1.1; have G2_1 := A2_1.2
  have F3_0 := A3_0.1; have G3_0 := A3_0.2
  have F3_1 := A3_1.1; have G3_1 := A3_1.2
  have F4_0 := A4_0.1; have G4_0 := A4_0.2
  have F4_1 := A4_1.1; have G4_1 := A4_1.2
  have F5_0 := A5_0.1; have G5_0 := A5_0.2
  have F5_1 := A5_1.1; have G5_1 := A5_1.2
  have F6_0 := A6_0.1; have G6_0 := A6_0.2
  have F6_1 := A6_1.1; have G6_1 := A6_1.2
  have Z0 := A0_0.lt
  have Z1 := A1_0.lt
  have Z2 := A2_0.lt
  have Z3 := A3_0.lt
  have Z4 := A4_0.lt
  have Z5 := A5_0.lt
  have Z6 := A6_0.lt
  clear SX SZ A1 A2 A3 A4 A5 A6
  dsimp only
  iterate 4 go_step
  clear F0_0 G0_0 F0_1 G0_1 F1_0 G1_0 F1_1 G1_1 F2_0 G2_0 F2_1 G2_1 F3_0 G3_0 F3_1 G3_1 F4_0 G4_0 F4_1 G4_1 F5_0 G5_0 F5_1 G5_1 F6_0 G6_0 F6_1 G6_1 Z0 Z1 Z2 Z3 Z4 Z5 Z6
  replace A0_0 := At.set_blk (b' := w7.heap.size) (f' := 0) A0_0 (by first | omega | (have := B.size; omega)) (.float .f64 (ofKey (P)))
  replace A0_1 := At.set_blk (b' := w7.heap.size) (f' := 0) A0_1 (by first | omega | (have := B.size; omega)) (.float .f64 (ofKey (P)))
  replace A1_0 := At.set_blk (b' := w7.heap.size) (f' := 0) A1_0 (by first | omega | (have := B.size; omega)) (.float .f64 (ofKey (P)))
  replace A1_1 := At.set_blk (b' := w7.heap.size) (f' := 0) A1_1 (by first | omega | (have := B.size; omega)) (.float .f64 (ofKey (P)))
  replace A2_0 := At.set_blk (b' := w7.heap.size) (f' := 0) A2_0 (by first | omega | (have := B.size; omega)) (.float .f64 (ofKey (P)))
  replace A2_1 := At.set_blk (b' := w7.heap.size) (f' := 0) A2_1 (by first | omega | (have := B.size; omega)) (.float .f64 (ofKey (P)))
  replace A3_0 := At.set_blk (b' := w7.heap.size) (f' := 0) A3_0 (by first | omega | (have := B.size; omega)) (.float .f64 (ofKey (P)))
  replace A3_1 := At.set_blk (b' := w7.heap.size) (f' := 0) A3_1 (by first | omega | (have := B.size; omega)) (.float .f64 (ofKey (P)))
  replace A4_0 := At.set_blk (b' := w7.heap.size) (f' := 0) A4_0 (by first | omega | (have := B.size; omega)) (.float .f64 (ofKey (P)))
  replace A4_1 := At.set_blk (b' := w7.heap.size) (f' := 0) A4_1 (by first | omega | (have := B.size; omega)) (.float .f64 (ofKey (P)))
  replace A5_0 := At.set_blk (b' := w7.heap.size) (f' := 0) A5_0 (by first | omega | (have := B.size; omega)) (.float .f64 (ofKey (P)))
  replace A5_1 := At.set_blk (b' := w7.heap.size) (f' := 0) A5_1 (by first | omega | (have := B.size; omega)) (.float .f64 (ofKey (P)))
  replace A6_0 := At.set_same A6_0 (.float .f64 (ofKey (P)))
  replace A6_1 := At.set_off (f' := 0) A6_1 (by decide) (.float .f64 (ofKey (P)))
  replace A0_0 := At.set_blk (b' := w7.heap.size) (f' := 1) A0_0 (by first | omega | (have := B.size; omega)) (.float .f64 (ofKey (Q)))
  replace A0_1 := At.set_blk (b' := w7.heap.size) (f' := 1) A0_1 (by first | omega | (have := B.size; omega)) (.float .f64 (ofKey (Q)))
  replace A1_0 := At.set_blk (b' := w7.heap.size) (f' := 1) A1_0 (by first | omega | (have := B.size; omega)) (.float .f64 (ofKey (Q)))
  replace A1_1 := At.set_blk (b' := w7.heap.size) (f' := 1) A1_1 (by first | omega | (have := B.size; omega)) (.float .f64 (ofKey (Q)))
  replace A2_0 := At.set_blk (b' := w7.heap.size) (f' := 1) A2_0 (by first | omega | (have := B.size; omega)) (.float .f64 (ofKey (Q)))
  replace A2_1 := At.set_blk (b' := w7.heap.size) (f' := 1) A2_1 (by first | omega | (have := B.size; omega)) (.float .f64 (ofKey (Q)))
  replace A3_0 := At.set_blk (b' := w7.heap.size) (f' := 1) A3_0 (by first | omega | (have := B.size; omega)) (.float .f64 (ofKey (Q)))
  replace A3_1 := At.set_blk (b' := w7.heap.size) (f' := 1) A3_1 (by first | omega | (have := B.size; omega)) (.float .f64 (ofKey (Q)))
  replace A4_0 := At.set_blk (b' := w7.heap.size) (f' := 1) A4_0 (by first | omega | (have := B.size; omega)) (.float .f64 (ofKey (Q)))
  replace A4_1 := At.set_blk (b' := w7.heap.size) (f' := 1) A4_1 (by first | omega | (have := B.size; omega)) (.float .f64 (ofKey (Q)))
  replace A5_0 := At.set_blk (b' := w7.heap.size) (f' := 1) A5_0 (by first | omega | (have := B.size; omega)) (.float .f64 (ofKey (Q)))
  replace A5_1 := At.set_blk (b' := w7.heap.size) (f' := 1) A5_1 (by first | omega | (have := B.size; omega)) (.float .f64 (ofKey (Q)))
  replace A6_0 := At.set_off (f' := 1) A6_0 (by decide) (.float .f64 (ofKey (Q)))
  replace A6_1 := At.set_same A6_1 (.float .f64 (ofKey (Q)))
  have B' : Below w.heap.size w (World.setCell (World.setCell w8 ⟨w7.heap.size, 0, none⟩ (.float .f64 (ofKey (P)))) ⟨w7.heap.size, 1, none⟩ (.float .f64 (ofKey (Q)))) := (Below.setCell (Below.setCell B (p := ⟨w7.heap.size, 0, none⟩) (by first | (show w.heap.size ≤ w7.heap.size; omega) | (have := B.size; show w.heap.size ≤ w7.heap.size; omega)) (.float .f64 (ofKey (P)))) (p := ⟨w7.heap.size, 1, none⟩) (by first | (show w.heap.size ≤ w7.heap.size; omega) | (have := B.size; show w.heap.size ≤ w7.heap.size; omega)) (.float .f64 (ofKey (Q))))
  clear B
  obtain ⟨w9, hw9⟩ : ∃ w9, w9 = (World.setCell (World.setCell w8 ⟨w7.heap.size, 0, none⟩ (.float .f64 (ofKey (P)))) ⟨w7.heap.size, 1, none⟩ (.float .f64 (ofKey (Q)))) := ⟨_, rfl⟩
  rw [← hw9]
  replace A0_0 := At.of A0_0 hw9
  replace A0_1 := At.of A0_1 hw9
  replace A1_0 := At.of A1_0 hw9
  replace A1_1 := At.of A1_1 hw9
  replace A2_0 := At.of A2_0 hw9
  replace A2_1 := At.of A2_1 hw9
  replace A3_0 := At.of A3_0 hw9
  replace A3_1 := At.of A3_1 hw9
  replace A4_0 := At.of A4_0 hw9
  replace A4_1 := At.of A4_1 hw9
  replace A5_0 := At.of A5_0 hw9
  replace A5_1 := At.of A5_1 hw9
  replace A6_0 := At.of A6_0 hw9
  replace A6_1 := At.of A6_1 hw9
  have B := below_of B' hw9
  clear B' hw9
  have F0_0 := A0_0.1; have G0_0 := A0_0.2
  have F0_1 := A0_1.1; have G0_1 := A0_1.2
  have F1_0 := A1_0.1; have G1_0 := A1_0.2
  have F1_1 := A1_1.1; have G1_1 := A1_1.2
  have F2_0 := A2_0.1; have G2_0 := A2_0.2
  have F2_1 := A2_1.1; have G2_1 := A2_1.2
  have F3_0 := A3_0.1; have G3_0 := A3_0.2
  have F3_1 := A3_1.1; have G3_1 := A3_1.2
  have F4_0 := A4_0.1; have G4_0 := A4_0.2
  have F4_1 := A4_1.1; have G4_1 := A4_1.2
  have F5_0 := A5_0.1; have G5_0 := A5_0.2
  have F5_1 := A5_1.1; have G5_1 := A5_1.2
  have F6_0 := A6_0.1; have G6_0 := A6_0.2
  have F6_1 := A6_1.1; have G6_1 := A6_1.2
  have Z0 := A0_0.lt
  have Z1 := A1_0.lt
  have Z2 := A2_0.lt
  have Z3 := A3_0.lt
  have Z4 := A4_0.lt
  have Z5 := A5_0.lt
  have Z6 := A6_0.lt
  go_wp2_with fail
  refine wp_rounds 5 ?_
  refine (show Code.wp _ _ (Exit.then (Rounds _ _ _ 4) _) _ _ from ?_)
  generalize hRo : Rounds _ _ _ 4 = Ro
  have HRo := Lib.hid hRo
  clear hRo
  go_wp2_with fail
  refine (S6.out _).mono ?_
  rintro e w10 ⟨rfl, hbw10⟩
  clear F0_0 G0_0 F0_1 G0_1 F1_0 G1_0 F1_1 G1_1 F2_0 G2_0 F2_1 G2_1 F3_0 G3_0 F3_1 G3_1 F4_0 G4_0 F4_1 G4_1 F5_0 G5_0 F5_1 G5_1 F6_0 G6_0 F6_1 G6_1 Z0 Z1 Z2 Z3 Z4 Z5 Z6
  have n7 : w7.heap.size < w9.heap.size := At.lt A6_1
  replace A0_0 := At.below (At.alloc (A0_0)) hbw10
  replace A0_1 := At.below (At.alloc (A0_1)) hbw10
  replace A1_0 := At.below (At.alloc (A1_0)) hbw10
  replace A1_1 := At.below (At.alloc (A1_1)) hbw10
  replace A2_0 := At.below (At.alloc (A2_0)) hbw10
  replace A2_1 := At.below (At.alloc (A2_1)) hbw10
  replace A3_0 := At.below (At.alloc (A3_0)) hbw10
  replace A3_1 := At.below (At.alloc (A3_1)) hbw10
  replace A4_0 := At.below (At.alloc (A4_0)) hbw10
  replace A4_1 := At.below (At.alloc (A4_1)) hbw10
  replace A5_0 := At.below (At.alloc (A5_0)) hbw10
  replace A5_1 := At.below (At.alloc (A5_1)) hbw10
  replace A6_0 := At.below (At.alloc (A6_0)) hbw10
  replace A6_1 := At.below (At.alloc (A6_1)) hbw10
  have A7_0 : At (World.alloc w9 (.cells #[.int .i64 (6), .int .i64 (8), .int .i64 (10), .int .i64 (11)] 37)) (w9.heap.size) 0 (.int .i64 (6)) := ⟨by simp [go_sem], by simp [go_sem]⟩
  replace A7_0 := At.below A7_0 hbw10
  have A7_1 : At (World.alloc w9 (.cells #[.int .i64 (6), .int .i64 (8), .int .i64 (10), .int .i64 (11)] 37)) (w9.heap.size) 1 (.int .i64 (8)) := ⟨by simp [go_sem], by simp [go_sem]⟩
  replace A7_1 := At.below A7_1 hbw10
  have A7_2 : At (World.alloc w9 (.cells #[.int .i64 (6), .int .i64 (8), .int .i64 (10), .int .i64 (11)] 37)) (w9.heap.size) 2 (.int .i64 (10)) := ⟨by simp [go_sem], by simp [go_sem]⟩
  replace A7_2 := At.below A7_2 hbw10
  have A7_3 : At (World.alloc w9 (.cells #[.int .i64 (6), .int .i64 (8), .int .i64 (10), .int .i64 (11)] 37)) (w9.heap.size) 3 (.int .i64 (11)) := ⟨by simp [go_sem], by simp [go_sem]⟩
  replace A7_3 := At.below A7_3 hbw10
  replace B := below_step B B.size (below_alloc (hbw10))
  clear hbw10
  have F0_0 := A0_0.1; have G0_0 := A0_0.2
  have F0_1 := A0_1.1; have G0_1 := A0_1.2
  have F1_0 := A1_0.1; have G1_0 := A1_0.2
  have F1_1 := A1_1.1; have G1_1 := A1_1.2
  have F2_0 := A2_0.1; have G2_0 := A2_0.2
  have F2_1 := A2_1.1; have G2_1 := A2_1.2
  have F3_0 := A3_0.1; have G3_0 := A3_0.2
  have F3_1 := A3_1.1; have G3_1 := A3_1.2
  have F4_0 := A4_0.1; have G4_0 := A4_0.2
  have F4_1 := A4_1.1; have G4_1 := A4_1.2
  have F5_0 := A5_0.1; have G5_0 := A5_0.2
  have F5_1 := A5_1.1; have G5_1 := A5_1.2
  have F6_0 := A6_0.1; have G6_0 := A6_0.2
  have F6_1 := A6_1.1; have G6_1 := A6_1.2
  have F7_0 := A7_0.1; have G7_0 := A7_0.2
  have F7_1 := A7_1.1; have G7_1 := A7_1.2
  have F7_2 := A7_2.1; have G7_2 := A7_2.2
  have F7_3 := A7_3.1; have G7_3 := A7_3.2
  have Z0 := A0_0.lt
  have Z1 := A1_0.lt
  have Z2 := A2_0.lt
  have Z3 := A3_0.lt
  have Z4 := A4_0.lt
  have Z5 := A5_0.lt
  have Z6 := A6_0.lt
  have Z7 := A7_0.lt
  go_wp2_with fail
  refine (T6.out _).mono ?_
  rintro e w11 ⟨rfl, hbw11⟩
  clear F0_0 G0_0 F0_1 G0_1 F1_0 G1_0 F1_1 G1_1 F2_0 G2_0 F2_1 G2_1 F3_0 G3_0 F3_1 G3_1 F4_0 G4_0 F4_1 G4_1 F5_0 G5_0 F5_1 G5_1 F6_0 G6_0 F6_1 G6_1 F7_0 G7_0 F7_1 G7_1 F7_2 G7_2 F7_3 G7_3 Z0 Z1 Z2 Z3 Z4 Z5 Z6 Z7
  have n8 : w9.heap.size < w10.heap.size := At.lt A7_3
  replace A0_0 := At.below (At.alloc (A0_0)) hbw11
  replace A0_1 := At.below (At.alloc (A0_1)) hbw11
  replace A1_0 := At.below (At.alloc (A1_0)) hbw11
  replace A1_1 := At.below (At.alloc (A1_1)) hbw11
  replace A2_0 := At.below (At.alloc (A2_0)) hbw11
  replace A2_1 := At.below (At.alloc (A2_1)) hbw11
  replace A3_0 := At.below (At.alloc (A3_0)) hbw11
  replace A3_1 := At.below (At.alloc (A3_1)) hbw11
  replace A4_0 := At.below (At.alloc (A4_0)) hbw11
  replace A4_1 := At.below (At.alloc (A4_1)) hbw11
  replace A5_0 := At.below (At.alloc (A5_0)) hbw11
  replace A5_1 := At.below (At.alloc (A5_1)) hbw11
  replace A6_0 := At.below (At.alloc (A6_0)) hbw11
  replace A6_1 := At.below (At.alloc (A6_1)) hbw11
  replace A7_0 := At.below (At.alloc (A7_0)) hbw11
  replace A7_1 := At.below (At.alloc (A7_1)) hbw11
  replace A7_2 := At.below (At.alloc (A7_2)) hbw11
  replace A7_3 := At.below (At.alloc (A7_3)) hbw11
  have A8_0 : At (World.alloc w10 (.cells #[.float .f64 (ofKey (L6)), .float .f64 (ofKey (H6))] 28)) (w10.heap.size) 0 (.float .f64 (ofKey (L6))) := ⟨by simp [go_sem], by simp [go_sem]⟩
  replace A8_0 := At.below A8_0 hbw11
  have A8_1 : At (World.alloc w10 (.cells #[.float .f64 (ofKey (L6)), .float .f64 (ofKey (H6))] 28)) (w10.heap.size) 1 (.float .f64 (ofKey (H6))) := ⟨by simp [go_sem], by simp [go_sem]⟩
  replace A8_1 := At.below A8_1 hbw11
  replace B := below_step B B.size (below_alloc (hbw11))
  clear hbw11
  have F0_0 := A0_0.1; have G0_0 := A0_0.2
  have F0_1 := A0_1.1; have G0_1 := A0_1.2
  have F1_0 := A1_0.1; have G1_0 := A1_0.2
  have F1_1 := A1_1.1; have G1_1 := A1_1.2
  have F2_0 := A2_0.1; have G2_0 := A2_0.2
  have F2_1 := A2_1.1; have G2_1 := A2_1.2
  have F3_0 := A3_0.1; have G3_0 := A3_0.2
  have F3_1 := A3_1.1; have G3_1 := A3_1.2
  have F4_0 := A4_0.1; have G4_0 := A4_0.2
  have F4_1 := A4_1.1; have G4_1 := A4_1.2
  have F5_0 := A5_0.1; have G5_0 := A5_0.2
  have F5_1 := A5_1.1; have G5_1 := A5_1.2
  have F6_0 := A6_0.1; have G6_0 := A6_0.2
  have F6_1 := A6_1.1; have G6_1 := A6_1.2
  have F7_0 := A7_0.1; have G7_0 := A7_0.2
  have F7_1 := A7_1.1; have G7_1 := A7_1.2
  have F7_2 := A7_2.1; have G7_2 := A7_2.2
  have F7_3 := A7_3.1; have G7_3 := A7_3.2
  have F8_0 := A8_0.1; have G8_0 := A8_0.2
  have F8_1 := A8_1.1; have G8_1 := A8_1.2
  have Z0 := A0_0.lt
  have Z1 := A1_0.lt
  have Z2 := A2_0.lt
  have Z3 := A3_0.lt
  have Z4 := A4_0.lt
  have Z5 := A5_0.lt
  have Z6 := A6_0.lt
  have Z7 := A7_0.lt
  have Z8 := A8_0.lt
  go_wp2_with fail
  rw [← HRo.out]
  clear HRo
  refine (show Code.wp _ _ (Exit.then (Rounds _ _ _ 3) _) _ _ from ?_)
  generalize hRo : Rounds _ _ _ 3 = Ro
  have HRo := Lib.hid hRo
  clear hRo
  go_wp2_with fail
  refine (S8.out _).mono ?_
  rintro e w12 ⟨rfl, hbw12⟩
  clear F0_0 G0_0 F0_1 G0_1 F1_0 G1_0 F1_1 G1_1 F2_0 G2_0 F2_1 G2_1 F3_0 G3_0 F3_1 G3_1 F4_0 G4_0 F4_1 G4_1 F5_0 G5_0 F5_1 G5_1 F6_0 G6_0 F6_1 G6_1 F7_0 G7_0 F7_1 G7_1 F7_2 G7_2 F7_3 G7_3 F8_0 G8_0 F8_1 G8_1 Z0 Z1 Z2 Z3 Z4 Z5 Z6 Z7 Z8
  have n9 : w10.heap.size < w11.heap.size := At.lt A8_1
  replace A0_0 := At.below (At.alloc (A0_0)) hbw12
  replace A0_1 := At.below (At.alloc (A0_1)) hbw12
  replace A1_0 := At.below (At.alloc (A1_0)) hbw12
  replace A1_1 := At.below (At.alloc (A1_1)) hbw12
  replace A2_0 := At.below (At.alloc (A2_0)) hbw12
  replace A2_1 := At.below (At.alloc (A2_1)) hbw12
  replace A3_0 := At.below (At.alloc (A3_0)) hbw12
  replace A3_1 := At.below (At.alloc (A3_1)) hbw12
  replace A4_0 := At.below (At.alloc (A4_0)) hbw12
  replace A4_1 := At.below (At.alloc (A4_1)) hbw12
  replace A5_0 := At.below (At.alloc (A5_0)) hbw12
  replace A5_1 := At.below (At.alloc (A5_1)) hbw12
  replace A6_0 := At.below (At.alloc (A6_0)) hbw12
  replace A6_1 := At.below (At.alloc (A6_1)) hbw12
  replace A7_0 := At.below (At.alloc (A7_0)) hbw12
  replace A7_1 := At.below (At.alloc (A7_1)) hbw12
  replace A7_2 := At.below (At.alloc (A7_2)) hbw12
  replace A7_3 := At.below (At.alloc (A7_3)) hbw12
  replace A8_0 := At.below (At.alloc (A8_0)) hbw12
  replace A8_1 := At.below (At.alloc (A8_1)) hbw12
  have A9_0 : At (World.alloc w11 (.cells #[.float .f64 (ofKey (L6)), .float .f64 (ofKey (H6))] 28)) (w11.heap.size) 0 (.float .f64 (ofKey (L6))) := ⟨by simp [go_sem], by simp [go_sem]⟩
  replace A9_0 := At.below A9_0 hbw12
  have A9_1 : At (World.alloc w11 (.cells #[.float .f64 (ofKey (L6)), .float .f64 (ofKey (H6))] 28)) (w11.heap.size) 1 (.float .f64 (ofKey (H6))) := ⟨by simp [go_sem], by simp [go_sem]⟩
  replace A9_1 := At.below A9_1 hbw12
  replace B := below_step B B.size (below_alloc (hbw12))
  clear hbw12
  have F0_0 := A0_0.1; have G0_0 := A0_0.2
  have F0_1 := A0_1.1; have G0_1 := A0_1.2
  have F1_0 := A1_0.1; have G1_0 := A1_0.2
  have F1_1 := A1_1.1; have G1_1 := A1_1.2
  have F2_0 := A2_0.1; have G2_0 := A2_0.2
  have F2_1 := A2_1.1; have G2_1 := A2_1.2
  have F3_0 := A3_0.1; have G3_0 := A3_0.2
  have F3_1 := A3_1.1; have G3_1 := A3_1.2
  have F4_0 := A4_0.1; have G4_0 := A4_0.2
  have F4_1 := A4_1.1; have G4_1 := A4_1.2
  have F5_0 := A5_0.1; have G5_0 := A5_0.2
  have F5_1 := A5_1.1; have G5_1 := A5_1.2
  have F6_0 := A6_0.1; have G6_0 := A6_0.2
  have F6_1 := A6_1.1; have G6_1 := A6_1.2
  have F7_0 := A7_0.1; have G7_0 := A7_0.2
  have F7_1 := A7_1.1; have G7_1 := A7_1.2
  have F7_2 := A7_2.1; have G7_2 := A7_2.2
  have F7_3 := A7_3.1; have G7_3 := A7_3.2
  have F8_0 := A8_0.1; have G8_0 := A8_0.2
  have F8_1 := A8_1.1; have G8_1 := A8_1.2
  have F9_0 := A9_0.1; have G9_0 := A9_0.2
  have F9_1 := A9_1.1; have G9_1 := A9_1.2
  have Z0 := A0_0.lt
  have Z1 := A1_0.lt
  have Z2 := A2_0.lt
  have Z3 := A3_0.lt
  have Z4 := A4_0.lt
  have Z5 := A5_0.lt
  have Z6 := A6_0.lt
  have Z7 := A7_0.lt
  have Z8 := A8_0.lt
  have Z9 := A9_0.lt
  go_wp2_with fail
  refine (T8.out _).mono ?_
  rintro e w13 ⟨rfl, hbw13⟩
  clear F0_0 G0_0 F0_1 G0_1 F1_0 G1_0 F1_1 G1_1 F2_0 G2_0 F2_1 G2_1 F3_0 G3_0 F3_1 G3_1 F4_0 G4_0 F4_1 G4_1 F5_0 G5_0 F5_1 G5_1 F6_0 G6_0 F6_1 G6_1 F7_0 G7_0 F7_1 G7_1 F7_2 G7_2 F7_3 G7_3 F8_0 G8_0 F8_1 G8_1 F9_0 G9_0 F9_1 G9_1 Z0 Z1 Z2 Z3 Z4 Z5 Z6 Z7 Z8 Z9
  have n10 : w11.heap.size < w12.heap.size := At.lt A9_1
  replace A0_0 := At.below (At.alloc (A0_0)) hbw13
  replace A0_1 := At.below (At.alloc (A0_1)) hbw13
  replace A1_0 := At.below (At.alloc (A1_0)) hbw13
  replace A1_1 := At.below (At.alloc (A1_1)) hbw13
  replace A2_0 := At.below (At.alloc (A2_0)) hbw13
  replace A2_1 := At.below (At.alloc (A2_1)) hbw13
  replace A3_0 := At.below (At.alloc (A3_0)) hbw13
  replace A3_1 := At.below (At.alloc (A3_1)) hbw13
  replace A4_0 := At.below (At.alloc (A4_0)) hbw13
  replace A4_1 := At.below (At.alloc (A4_1)) hbw13
  replace A5_0 := At.below (At.alloc (A5_0)) hbw13
  replace A5_1 := At.below (At.alloc (A5_1)) hbw13
  replace A6_0 := At.below (At.alloc (A6_0)) hbw13
  replace A6_1 := At.below (At.alloc (A6_1)) hbw13
  replace A7_0 := At.below (At.alloc (A7_0)) hbw13
  replace A7_1 := At.below (At.alloc (A7_1)) hbw13
  replace A7_2 := At.below (At.alloc (A7_2)) hbw13
  replace A7_3 := At.below (At.alloc (A7_3)) hbw13
  replace A8_0 := At.below (At.alloc (A8_0)) hbw13
  replace A8_1 := At.below (At.alloc (A8_1)) hbw13
  replace A9_0 := At.below (At.alloc (A9_0)) hbw13
  replace A9_1 := At.below (At.alloc (A9_1)) hbw13
  have A10_0 : At (World.alloc w12 (.cells #[.float .f64 (ofKey (L8)), .float .f64 (ofKey (H8))] 28)) (w12.heap.size) 0 (.float .f64 (ofKey (L8))) := ⟨by simp [go_sem], by simp [go_sem]⟩
  replace A10_0 := At.below A10_0 hbw13
  have A10_1 : At (World.alloc w12 (.cells #[.float .f64 (ofKey (L8)), .float .f64 (ofKey (H8))] 28)) (w12.heap.size) 1 (.float .f64 (ofKey (H8))) := ⟨by simp [go_sem], by simp [go_sem]⟩
  replace A10_1 := At.below A10_1 hbw13
  replace B := below_step B B.size (below_alloc (hbw13))
  clear hbw13
  have F0_0 := A0_0.1; have G0_0 := A0_0.2
  have F0_1 := A0_1.1; have G0_1 := A0_1.2
  have F1_0 := A1_0.1; have G1_0 := A1_0.2
  have F1_1 := A1_1.1; have G1_1 := A1_1.2
  have F2_0 := A2_0.1; have G2_0 := A2_0.2
  have F2_1 := A2_1.1; have G2_1 := A2_1.2
  have F3_0 := A3_0.1; have G3_0 := A3_0.2
  have F3_1 := A3_1.1; have G3_1 := A3_1.2
  have F4_0 := A4_0.1; have G4_0 := A4_0.2
  have F4_1 := A4_1.1; have G4_1 := A4_1.2
  have F5_0 := A5_0.1; have G5_0 := A5_0.2
  have F5_1 := A5_1.1; have G5_1 := A5_1.2
  have F6_0 := A6_0.1; have G6_0 := A6_0.2
  have F6_1 := A6_1.1; have G6_1 := A6_1.2
  have F7_0 := A7_0.1; have G7_0 := A7_0.2
  have F7_1 := A7_1.1; have G7_1 := A7_1.2
  have F7_2 := A7_2.1; have G7_2 := A7_2.2
  have F7_3 := A7_3.1; have G7_3 := A7_3.2
  have F8_0 := A8_0.1; have G8_0 := A8_0.2
  have F8_1 := A8_1.1; have G8_1 := A8_1.2
  have F9_0 := A9_0.1; have G9_0 := A9_0.2
  have F9_1 := A9_1.1; have G9_1 := A9_1.2
  have F10_0 := A10_0.1; have G10_0 := A10_0.2
  have F10_1 := A10_1.1; have G10_1 := A10_1.2
  have Z0 := A0_0.lt
  have Z1 := A1_0.lt
  have Z2 := A2_0.lt
  have Z3 := A3_0.lt
  have Z4 := A4_0.lt
  have Z5 := A5_0.lt
  have Z6 := A6_0.lt
  have Z7 := A7_0.lt
  have Z8 := A8_0.lt
  have Z9 := A9_0.lt
  have Z10 := A10_0.lt
  go_wp2_with fail
  rw [← HRo.out]
  clear HRo
  refine (show Code.wp _ _ (Exit.then (Rounds _ _ _ 2) _) _ _ from ?_)
  generalize hRo : Rounds _ _ _ 2 = Ro
  have HRo := Lib.hid hRo
  clear hRo
  go_wp2_with fail
  refine (S10.out _).mono ?_
  rintro e w14 ⟨rfl, hbw14⟩
  clear F0_0 G0_0 F0_1 G0_1 F1_0 G1_0 F1_1 G1_1 F2_0 G2_0 F2_1 G2_1 F3_0 G3_0 F3_1 G3_1 F4_0 G4_0 F4_1 G4_1 F5_0 G5_0 F5_1 G5_1 F6_0 G6_0 F6_1 G6_1 F7_0 G7_0 F7_1 G7_1 F7_2 G7_2 F7_3 G7_3 F8_0 G8_0 F8_1 G8_1 F9_0 G9_0 F9_1 G9_1 F10_0 G10_0 F10_1 G10_1 Z0 Z1 Z2 Z3 Z4 Z5 Z6 Z7 Z8 Z9 Z10
  have n11 : w12.heap.size < w13.heap.size := At.lt A10_1
  replace A0_0 := At.below (At.alloc (A0_0)) hbw14
  replace A0_1 := At.below (At.alloc (A0_1)) hbw14
  replace A1_0 := At.below (At.alloc (A1_0)) hbw14
  replace A1_1 := At.below (At.alloc (A1_1)) hbw14
  replace A2_0 := At.below (At.alloc (A2_0)) hbw14
  replace A2_1 := At.below (At.alloc (A2_1)) hbw14
  replace A3_0 := At.below (At.alloc (A3_0)) hbw14
  replace A3_1 := At.below (At.alloc (A3_1)) hbw14
  replace A4_0 := At.below (At.alloc (A4_0)) hbw14
  replace A4_1 := At.below (At.alloc (A4_1)) hbw14
  replace A5_0 := At.below (At.alloc (A5_0)) hbw14
  replace A5_1 := At.below (At.alloc (A5_1)) hbw14
  replace A6_0 := At.below (At.alloc (A6_0)) hbw14
  replace A6_1 := At.below (At.alloc (A6_1)) hbw14
  replace A7_0 := At.below (At.alloc (A7_0)) hbw14
  replace A7_1 := At.below (At.alloc (A7_1)) hbw14
  replace A7_2 := At.below (At.alloc (A7_2)) hbw14
  replace A7_3 := At.below (At.alloc (A7_3)) hbw14
  replace A8_0 := At.below (At.alloc (A8_0)) hbw14
  replace A8_1 := At.below (At.alloc (A8_1)) hbw14
  replace A9_0 := At.below (At.alloc (A9_0)) hbw14
  replace A9_1 := At.below (At.alloc (A9_1)) hbw14
  replace A10_0 := At.below (At.alloc (A10_0)) hbw14
  replace A10_1 := At.below (At.alloc (A10_1)) hbw14
  have A11_0 : At (World.alloc w13 (.cells #[.float .f64 (ofKey (L8)), .float .f64 (ofKey (H8))] 28)) (w13.heap.size) 0 (.float .f64 (ofKey (L8))) := ⟨by simp [go_sem], by simp [go_sem]⟩
  replace A11_0 := At.below A11_0 hbw14
  have A11_1 : At (World.alloc w13 (.cells #[.float .f64 (ofKey (L8)), .float .f64 (ofKey (H8))] 28)) (w13.heap.size) 1 (.float .f64 (ofKey (H8))) := ⟨by simp [go_sem], by simp [go_sem]⟩
  replace A11_1 := At.below A11_1 hbw14
  replace B := below_step B B.size (below_alloc (hbw14))
  clear hbw14
  have F0_0 := A0_0.1; have G0_0 := A0_0.2
  have F0_1 := A0_1.1; have G0_1 := A0_1.2
  have F1_0 := A1_0.1; have G1_0 := A1_0.2
  have F1_1 := A1_1.1; have G1_1 := A1_1.2
  have F2_0 := A2_0.1; have G2_0 := A2_0.2
  have F2_1 := A2_1.1; have G2_1 := A2_1.2
  have F3_0 := A3_0.1; have G3_0 := A3_0.2
  have F3_1 := A3_1.1; have G3_1 := A3_1.2
  have F4_0 := A4_0.1; have G4_0 := A4_0.2
  have F4_1 := A4_1.1; have G4_1 := A4_1.2
  have F5_0 := A5_0.1; have G5_0 := A5_0.2
  have F5_1 := A5_1.1; have G5_1 := A5_1.2
  have F6_0 := A6_0.1; have G6_0 := A6_0.2
  have F6_1 := A6_1.1; have G6_1 := A6_1.2
  have F7_0 := A7_0.1; have G7_0 := A7_0.2
  have F7_1 := A7_1.1; have G7_1 := A7_1.2
  have F7_2 := A7_2.1; have G7_2 := A7_2.2
  have F7_3 := A7_3.1; have G7_3 := A7_3.2
  have F8_0 := A8_0.1; have G8_0 := A8_0.2
  have F8_1 := A8_1.1; have G8_1 := A8_1.2
  have F9_0 := A9_0.1; have G9_0 := A9_0.2
  have F9_1 := A9_1.1; have G9_1 := A9_1.2
  have F10_0 := A10_0.1; have G10_0 := A10_0.2
  have F10_1 := A10_1.1; have G10_1 := A10_1.2
  have F11_0 := A11_0.1; have G11_0 := A11_0.2
  have F11_1 := A11_1.1; have G11_1 := A11_1.2
  have Z0 := A0_0.lt
  have Z1 := A1_0.lt
  have Z2 := A2_0.lt
  have Z3 := A3_0.lt
  have Z4 := A4_0.lt
  have Z5 := A5_0.lt
  have Z6 := A6_0.lt
  have Z7 := A7_0.lt
  have Z8 := A8_0.lt
  have Z9 := A9_0.lt
  have Z10 := A10_0.lt
  have Z11 := A11_0.lt
  go_wp2_with fail
  refine (T10.out _).mono ?_
  rintro e w15 ⟨rfl, hbw15⟩
  clear F0_0 G0_0 F0_1 G0_1 F1_0 G1_0 F1_1 G1_1 F2_0 G2_0 F2_1 G2_1 F3_0 G3_0 F3_1 G3_1 F4_0 G4_0 F4_1 G4_1 F5_0 G5_0 F5_1 G5_1 F6_0 G6_0 F6_1 G6_1 F7_0 G7_0 F7_1 G7_1 F7_2 G7_2 F7_3 G7_3 F8_0 G8_0 F8_1 G8_1 F9_0 G9_0 F9_1 G9_1 F10_0 G10_0 F10_1 G10_1 F11_0 G11_0 F11_1 G11_1 Z0 Z1 Z2 Z3 Z4 Z5 Z6 Z7 Z8 Z9 Z10 Z11
  have n12 : w13.heap.size < w14.heap.size := At.lt A11_1
  replace A0_0 := At.below (At.alloc (A0_0)) hbw15
  replace A0_1 := At.below (At.alloc (A0_1)) hbw15
  replace A1_0 := At.below (At.alloc (A1_0)) hbw15
  replace A1_1 := At.below (At.alloc (A1_1)) hbw15
  replace A2_0 := At.below (At.alloc (A2_0)) hbw15
  replace A2_1 := At.below (At.alloc (A2_1)) hbw15
  replace A3_0 := At.below (At.alloc (A3_0)) hbw15
  replace A3_1 := At.below (At.alloc (A3_1)) hbw15
  replace A4_0 := At.below (At.alloc (A4_0)) hbw15
  replace A4_1 := At.below (At.alloc (A4_1)) hbw15
  replace A5_0 := At.below (At.alloc (A5_0)) hbw15
  replace A5_1 := At.below (At.alloc (A5_1)) hbw15
  replace A6_0 := At.below (At.alloc (A6_0)) hbw15
  replace A6_1 := At.below (At.alloc (A6_1)) hbw15
  replace A7_0 := At.below (At.alloc (A7_0)) hbw15
  replace A7_1 := At.below (At.alloc (A7_1)) hbw15
  replace A7_2 := At.below (At.alloc (A7_2)) hbw15
  replace A7_3 := At.below (At.alloc (A7_3)) hbw15
  replace A8_0 := At.below (At.alloc (A8_0)) hbw15
  replace A8_1 := At.below (At.alloc (A8_1)) hbw15
  replace A9_0 := At.below (At.alloc (A9_0)) hbw15
  replace A9_1 := At.below (At.alloc (A9_1)) hbw15
  replace A10_0 := At.below (At.alloc (A10_0)) hbw15
  replace A10_1 := At.below (At.alloc (A10_1)) hbw15
  replace A11_0 := At.below (At.alloc (A11_0)) hbw15
  replace A11_1 := At.below (At.alloc (A11_1)) hbw15
  have A12_0 : At (World.alloc w14 (.cells #[.float .f64 (ofKey (L10)), .float .f64 (ofKey (H10))] 28)) (w14.heap.size) 0 (.float .f64 (ofKey (L10))) := ⟨by simp [go_sem], by simp [go_sem]⟩
  replace A12_0 := At.below A12_0 hbw15
  have A12_1 : At (World.alloc w14 (.cells #[.float .f64 (ofKey (L10)), .float .f64 (ofKey (H10))] 28)) (w14.heap.size) 1 (.float .f64 (ofKey (H10))) := ⟨by simp [go_sem], by simp [go_sem]⟩
  replace A12_1 := At.below A12_1 hbw15
  replace B := below_step B B.size (below_alloc (hbw15))
  clear hbw15
  have F0_0 := A0_0.1; have G0_0 := A0_0.2
  have F0_1 := A0_1.1; have G0_1 := A0_1.2
  have F1_0 := A1_0.1; have G1_0 := A1_0.2
  have F1_1 := A1_1.1; have G1_1 := A1_1.2
  have F2_0 := A2_0.1; have G2_0 := A2_0.2
  have F2_1 := A2_1.1; have G2_1 := A2_1.2
  have F3_0 := A3_0.1; have G3_0 := A3_0.2
  have F3_1 := A3_1.1; have G3_1 := A3_1.2
  have F4_0 := A4_0.1; have G4_0 := A4_0.2
  have F4_1 := A4_1.1; have G4_1 := A4_1.2
  have F5_0 := A5_0.1; have G5_0 := A5_0.2
  have F5_1 := A5_1.1; have G5_1 := A5_1.2
  have F6_0 := A6_0.1; have G6_0 := A6_0.2
  have F6_1 := A6_1.1; have G6_1 := A6_1.2
  have F7_0 := A7_0.1; have G7_0 := A7_0.2
  have F7_1 := A7_1.1; have G7_1 := A7_1.2
  have F7_2 := A7_2.1; have G7_2 := A7_2.2
  have F7_3 := A7_3.1; have G7_3 := A7_3.2
  have F8_0 := A8_0.1; have G8_0 := A8_0.2
  have F8_1 := A8_1.1; have G8_1 := A8_1.2
  have F9_0 := A9_0.1; have G9_0 := A9_0.2
  have F9_1 := A9_1.1; have G9_1 := A9_1.2
  have F10_0 := A10_0.1; have G10_0 := A10_0.2
  have F10_1 := A10_1.1; have G10_1 := A10_1.2
  have F11_0 := A11_0.1; have G11_0 := A11_0.2
  have F11_1 := A11_1.1; have G11_1 := A11_1.2
  have F12_0 := A12_0.1; have G12_0 := A12_0.2
  have F12_1 := A12_1.1; have G12_1 := A12_1.2
  have Z0 := A0_0.lt
  have Z1 := A1_0.lt
  have Z2 := A2_0.lt
  have Z3 := A3_0.lt
  have Z4 := A4_0.lt
  have Z5 := A5_0.lt
  have Z6 := A6_0.lt
  have Z7 := A7_0.lt
  have Z8 := A8_0.lt
  have Z9 := A9_0.lt
  have Z10 := A10_0.lt
  have Z11 := A11_0.lt
  have Z12 := A12_0.lt
  go_wp2_with fail
  rw [← HRo.out]
  clear HRo
  refine (show Code.wp _ _ (Exit.then (Rounds _ _ _ 1) _) _ _ from ?_)
  generalize hRo : Rounds _ _ _ 1 = Ro
  have HRo := Lib.hid hRo
  clear hRo
  go_wp2_with fail
  refine (S11.out _).mono ?_
  rintro e w16 ⟨rfl, hbw16⟩
  clear F0_0 G0_0 F0_1 G0_1 F1_0 G1_0 F1_1 G1_1 F2_0 G2_0 F2_1 G2_1 F3_0 G3_0 F3_1 G3_1 F4_0 G4_0 F4_1 G4_1 F5_0 G5_0 F5_1 G5_1 F6_0 G6_0 F6_1 G6_1 F7_0 G7_0 F7_1 G7_1 F7_2 G7_2 F7_3 G7_3 F8_0 G8_0 F8_1 G8_1 F9_0 G9_0 F9_1 G9_1 F10_0 G10_0 F10_1 G10_1 F11_0 G11_0 F11_1 G11_1 F12_0 G12_0 F12_1 G12_1 Z0 Z1 Z2 Z3 Z4 Z5 Z6 Z7 Z8 Z9 Z10 Z11 Z12
  have n13 : w14.heap.size < w15.heap.size := At.lt A12_1
  replace A0_0 := At.below (At.alloc (A0_0)) hbw16
  replace A0_1 := At.below (At.alloc (A0_1)) hbw16
  replace A1_0 := At.below (At.alloc (A1_0)) hbw16
  replace A1_1 := At.below (At.alloc (A1_1)) hbw16
  replace A2_0 := At.below (At.alloc (A2_0)) hbw16
  replace A2_1 := At.below (At.alloc (A2_1)) hbw16
  replace A3_0 := At.below (At.alloc (A3_0)) hbw16
  replace A3_1 := At.below (At.alloc (A3_1)) hbw16
  replace A4_0 := At.below (At.alloc (A4_0)) hbw16
  replace A4_1 := At.below (At.alloc (A4_1)) hbw16
  replace A5_0 := At.below (At.alloc (A5_0)) hbw16
  replace A5_1 := At.below (At.alloc (A5_1)) hbw16
  replace A6_0 := At.below (At.alloc (A6_0)) hbw16
  replace A6_1 := At.below (At.alloc (A6_1)) hbw16
  replace A7_0 := At.below (At.alloc (A7_0)) hbw16
  replace A7_1 := At.below (At.alloc (A7_1)) hbw16
  replace A7_2 := At.below (At.alloc (A7_2)) hbw16
  replace A7_3 := At.below (At.alloc (A7_3)) hbw16
  replace A8_0 := At.below (At.alloc (A8_0)) hbw16
  replace A8_1 := At.below (At.alloc (A8_1)) hbw16
  replace A9_0 := At.below (At.alloc (A9_0)) hbw16
  replace A9_1 := At.below (At.alloc (A9_1)) hbw16
  replace A10_0 := At.below (At.alloc (A10_0)) hbw16
  replace A10_1 := At.below (At.alloc (A10_1)) hbw16
  replace A11_0 := At.below (At.alloc (A11_0)) hbw16
  replace A11_1 := At.below (At.alloc (A11_1)) hbw16
  replace A12_0 := At.below (At.alloc (A12_0)) hbw16
  replace A12_1 := At.below (At.alloc (A12_1)) hbw16
  have A13_0 : At (World.alloc w15 (.cells #[.float .f64 (ofKey (L10)), .float .f64 (ofKey (H10))] 28)) (w15.heap.size) 0 (.float .f64 (ofKey (L10))) := ⟨by simp [go_sem], by simp [go_sem]⟩
  replace A13_0 := At.below A13_0 hbw16
  have A13_1 : At (World.alloc w15 (.cells #[.float .f64 (ofKey (L10)), .float .f64 (ofKey (H10))] 28)) (w15.heap.size) 1 (.float .f64 (ofKey (H10))) := ⟨by simp [go_sem], by simp [go_sem]⟩
  replace A13_1 := At.below A13_1 hbw16
  replace B := below_step B B.size (below_alloc (hbw16))
  clear hbw16
  have F0_0 := A0_0.1; have G0_0 := A0_0.2
  have F0_1 := A0_1.1; have G0_1 := A0_1.2
  have F1_0 := A1_0.1; have G1_0 := A1_0.2
  have F1_1 := A1_1.1; have G1_1 := A1_1.2
  have F2_0 := A2_0.1; have G2_0 := A2_0.2
  have F2_1 := A2_1.1; have G2_1 := A2_1.2
  have F3_0 := A3_0.1; have G3_0 := A3_0.2
  have F3_1 := A3_1.1; have G3_1 := A3_1.2
  have F4_0 := A4_0.1; have G4_0 := A4_0.2
  have F4_1 := A4_1.1; have G4_1 := A4_1.2
  have F5_0 := A5_0.1; have G5_0 := A5_0.2
  have F5_1 := A5_1.1; have G5_1 := A5_1.2
  have F6_0 := A6_0.1; have G6_0 := A6_0.2
  have F6_1 := A6_1.1; have G6_1 := A6_1.2
  have F7_0 := A7_0.1; have G7_0 := A7_0.2
  have F7_1 := A7_1.1; have G7_1 := A7_1.2
  have F7_2 := A7_2.1; have G7_2 := A7_2.2
  have F7_3 := A7_3.1; have G7_3 := A7_3.2
  have F8_0 := A8_0.1; have G8_0 := A8_0.2
  have F8_1 := A8_1.1; have G8_1 := A8_1.2
  have F9_0 := A9_0.1; have G9_0 := A9_0.2
  have F9_1 := A9_1.1; have G9_1 := A9_1.2
  have F10_0 := A10_0.1; have G10_0 := A10_0.2
  have F10_1 := A10_1.1; have G10_1 := A10_1.2
  have F11_0 := A11_0.1; have G11_0 := A11_0.2
  have F11_1 := A11_1.1; have G11_1 := A11_1.2
  have F12_0 := A12_0.1; have G12_0 := A12_0.2
  have F12_1 := A12_1.1; have G12_1 := A12_1.2
  have F13_0 := A13_0.1; have G13_0 := A13_0.2
  have F13_1 := A13_1.1; have G13_1 := A13_1.2
  have Z0 := A0_0.lt
  have Z1 := A1_0.lt
  have Z2 := A2_0.lt
  have Z3 := A3_0.lt
  have Z4 := A4_0.lt
  have Z5 := A5_0.lt
  have Z6 := A6_0.lt
  have Z7 := A7_0.lt
  have Z8 := A8_0.lt
  have Z9 := A9_0.lt
  have Z10 := A10_0.lt
  have Z11 := A11_0.lt
  have Z12 := A12_0.lt
  have Z13 := A13_0.lt
  go_wp2_with fail
  refine (T11.out _).mono ?_
  rintro e w17 ⟨rfl, hbw17⟩
  clear F0_0 G0_0 F0_1 G0_1 F1_0 G1_0 F1_1 G1_1 F2_0 G2_0 F2_1 G2_1 F3_0 G3_0 F3_1 G3_1 F4_0 G4_0 F4_1 G4_1 F5_0 G5_0 F5_1 G5_1 F6_0 G6_0 F6_1 G6_1 F7_0 G7_0 F7_1 G7_1 F7_2 G7_2 F7_3 G7_3 F8_0 G8_0 F8_1 G8_1 F9_0 G9_0 F9_1 G9_1 F10_0 G10_0 F10_1 G10_1 F11_0 G11_0 F11_1 G11_1 F12_0 G12_0 F12_1 G12_1 F13_0 G13_0 F13_1 G13_1 Z0 Z1 Z2 Z3 Z4 Z5 Z6 Z7 Z8 Z9 Z10 Z11 Z12 Z13
  have n14 : w15.heap.size < w16.heap.size := At.lt A13_1
  replace A0_0 := At.below (At.alloc (A0_0)) hbw17
  replace A0_1 := At.below (At.alloc (A0_1)) hbw17
  replace A1_0 := At.below (At.alloc (A1_0)) hbw17
  replace A1_1 := At.below (At.alloc (A1_1)) hbw17
  replace A2_0 := At.below (At.alloc (A2_0)) hbw17
  replace A2_1 := At.below (At.alloc (A2_1)) hbw17
  replace A3_0 := At.below (At.alloc (A3_0)) hbw17
  replace A3_1 := At.below (At.alloc (A3_1)) hbw17
  replace A4_0 := At.below (At.alloc (A4_0)) hbw17
  replace A4_1 := At.below (At.alloc (A4_1)) hbw17
  replace A5_0 := At.below (At.alloc (A5_0)) hbw17
  replace A5_1 := At.below (At.alloc (A5_1)) hbw17
  replace A6_0 := At.below (At.alloc (A6_0)) hbw17
  replace A6_1 := At.below (At.alloc (A6_1)) hbw17
  replace A7_0 := At.below (At.alloc (A7_0)) hbw17
  replace A7_1 := At.below (At.alloc (A7_1)) hbw17
  replace A7_2 := At.below (At.alloc (A7_2)) hbw17
  replace A7_3 := At.below (At.alloc (A7_3)) hbw17
  replace A8_0 := At.below (At.alloc (A8_0)) hbw17
  replace A8_1 := At.below (At.alloc (A8_1)) hbw17
  replace A9_0 := At.below (At.alloc (A9_0)) hbw17
  replace A9_1 := At.below (At.alloc (A9_1)) hbw17
  replace A10_0 := At.below (At.alloc (A10_0)) hbw17
  replace A10_1 := At.below (At.alloc (A10_1)) hbw17
  replace A11_0 := At.below (At.alloc (A11_0)) hbw17
  replace A11_1 := At.below (At.alloc (A11_1)) hbw17
  replace A12_0 := At.below (At.alloc (A12_0)) hbw17
  replace A12_1 := At.below (At.alloc (A12_1)) hbw17
  replace A13_0 := At.below (At.alloc (A13_0)) hbw17
  replace A13_1 := At.below (At.alloc (A13_1)) hbw17
  have A14_0 : At (World.alloc w16 (.cells #[.float .f64 (ofKey (L11)), .float .f64 (ofKey (H11))] 28)) (w16.heap.size) 0 (.float .f64 (ofKey (L11))) := ⟨by simp [go_sem], by simp [go_sem]⟩
  replace A14_0 := At.below A14_0 hbw17
  have A14_1 : At (World.alloc w16 (.cells #[.float .f64 (ofKey (L11)), .float .f64 (ofKey (H11))] 28)) (w16.heap.size) 1 (.float .f64 (ofKey (H11))) := ⟨by simp [go_sem], by simp [go_sem]⟩
  replace A14_1 := At.below A14_1 hbw17
  replace B := below_step B B.size (below_alloc (hbw17))
  clear hbw17
  have F0_0 := A0_0.1; have G0_0 := A0_0.2
  have F0_1 := A0_1.1; have G0_1 := A0_1.2
  have F1_0 := A1_0.1; have G1_0 := A1_0.2
  have F1_1 := A1_1.1; have G1_1 := A1_1.2
  have F2_0 := A2_0.1; have G2_0 := A2_0.2
  have F2_1 := A2_1.1; have G2_1 := A2_1.2
  have F3_0 := A3_0.1; have G3_0 := A3_0.2
  have F3_1 := A3_1.1; have G3_1 := A3_1.2
  have F4_0 := A4_0.1; have G4_0 := A4_0.2
  have F4_1 := A4_1.1; have G4_1 := A4_1.2
  have F5_0 := A5_0.1; have G5_0 := A5_0.2
  have F5_1 := A5_1.1; have G5_1 := A5_1.2
  have F6_0 := A6_0.1; have G6_0 := A6_0.2
  have F6_1 := A6_1.1; have G6_1 := A6_1.2
  have F7_0 := A7_0.1; have G7_0 := A7_0.2
  have F7_1 := A7_1.1; have G7_1 := A7_1.2
  have F7_2 := A7_2.1; have G7_2 := A7_2.2
  have F7_3 := A7_3.1; have G7_3 := A7_3.2
  have F8_0 := A8_0.1; have G8_0 := A8_0.2
  have F8_1 := A8_1.1; have G8_1 := A8_1.2
  have F9_0 := A9_0.1; have G9_0 := A9_0.2
  have F9_1 := A9_1.1; have G9_1 := A9_1.2
  have F10_0 := A10_0.1; have G10_0 := A10_0.2
  have F10_1 := A10_1.1; have G10_1 := A10_1.2
  have F11_0 := A11_0.1; have G11_0 := A11_0.2
  have F11_1 := A11_1.1; have G11_1 := A11_1.2
  have F12_0 := A12_0.1; have G12_0 := A12_0.2
  have F12_1 := A12_1.1; have G12_1 := A12_1.2
  have F13_0 := A13_0.1; have G13_0 := A13_0.2
  have F13_1 := A13_1.1; have G13_1 := A13_1.2
  have F14_0 := A14_0.1; have G14_0 := A14_0.2
  have F14_1 := A14_1.1; have G14_1 := A14_1.2
  have Z0 := A0_0.lt
  have Z1 := A1_0.lt
  have Z2 := A2_0.lt
  have Z3 := A3_0.lt
  have Z4 := A4_0.lt
  have Z5 := A5_0.lt
  have Z6 := A6_0.lt
  have Z7 := A7_0.lt
  have Z8 := A8_0.lt
  have Z9 := A9_0.lt
  have Z10 := A10_0.lt
  have Z11 := A11_0.lt
  have Z12 := A12_0.lt
  have Z13 := A13_0.lt
  have Z14 := A14_0.lt
  go_wp2_with fail
  rw [← HRo.out]
  clear HRo
  refine (show Code.wp _ _ (Exit.then (Rounds _ _ _ 0) _) _ _ from ?_)
  generalize hRo : Rounds _ _ _ 0 = Ro
  have HRo := Lib.hid hRo
  clear hRo
  go_wp2_with fail
  clear S6 T6 S8 T8 S10 T10 S11 T11
  refine (B1.out _).mono ?_
  rintro e w18 ⟨rfl, hbw18⟩
  clear F0_0 G0_0 F0_1 G0_1 F1_0 G1_0 F1_1 G1_1 F2_0 G2_0 F2_1 G2_1 F3_0 G3_0 F3_1 G3_1 F4_0 G4_0 F4_1 G4_1 F5_0 G5_0 F5_1 G5_1 F6_0 G6_0 F6_1 G6_1 F7_0 G7_0 F7_1 G7_1 F7_2 G7_2 F7_3 G7_3 F8_0 G8_0 F8_1 G8_1 F9_0 G9_0 F9_1 G9_1 F10_0 G10_0 F10_1 G10_1 F11_0 G11_0 F11_1 G11_1 F12_0 G12_0 F12_1 G12_1 F13_0 G13_0 F13_1 G13_1 F14_0 G14_0 F14_1 G14_1 Z0 Z1 Z2 Z3 Z4 Z5 Z6 Z7 Z8 Z9 Z10 Z11 Z12 Z13 Z14
  have n15 : w16.heap.size < w17.heap.size := At.lt A14_1
  replace A0_0 := At.below (At.alloc (A0_0)) hbw18
  replace A0_1 := At.below (At.alloc (A0_1)) hbw18
  replace A1_0 := At.below (At.alloc (A1_0)) hbw18
  replace A1_1 := At.below (At.alloc (A1_1)) hbw18
  replace A2_0 := At.below (At.alloc (A2_0)) hbw18
  replace A2_1 := At.below (At.alloc (A2_1)) hbw18
  replace A3_0 := At.below (At.alloc (A3_0)) hbw18
  replace A3_1 := At.below (At.alloc (A3_1)) hbw18
  replace A4_0 := At.below (At.alloc (A4_0)) hbw18
  replace A4_1 := At.below (At.alloc (A4_1)) hbw18
  replace A5_0 := At.below (At.alloc (A5_0)) hbw18
  replace A5_1 := At.below (At.alloc (A5_1)) hbw18
  replace A6_0 := At.below (At.alloc (A6_0)) hbw18
  replace A6_1 := At.below (At.alloc (A6_1)) hbw18
  replace A7_0 := At.below (At.alloc (A7_0)) hbw18
  replace A7_1 := At.below (At.alloc (A7_1)) hbw18
  replace A7_2 := At.below (At.alloc (A7_2)) hbw18
  replace A7_3 := At.below (At.alloc (A7_3)) hbw18
  replace A8_0 := At.below (At.alloc (A8_0)) hbw18
  replace A8_1 := At.below (At.alloc (A8_1)) hbw18
  replace A9_0 := At.below (At.alloc (A9_0)) hbw18
  replace A9_1 := At.below (At.alloc (A9_1)) hbw18
  replace A10_0 := At.below (At.alloc (A10_0)) hbw18
  replace A10_1 := At.below (At.alloc (A10_1)) hbw18
  replace A11_0 := At.below (At.alloc (A11_0)) hbw18
  replace A11_1 := At.below (At.alloc (A11_1)) hbw18
  replace A12_0 := At.below (At.alloc (A12_0)) hbw18
  replace A12_1 := At.below (At.alloc (A12_1)) hbw18
  replace A13_0 := At.below (At.alloc (A13_0)) hbw18
  replace A13_1 := At.below (At.alloc (A13_1)) hbw18
  replace A14_0 := At.below (At.alloc (A14_0)) hbw18
  replace A14_1 := At.below (At.alloc (A14_1)) hbw18
  have A15_0 : At (World.alloc w17 (.cells #[.float .f64 (ofKey (L11)), .float .f64 (ofKey (H11))] 28)) (w17.heap.size) 0 (.float .f64 (ofKey (L11))) := ⟨by simp [go_sem], by simp [go_sem]⟩
  replace A15_0 := At.below A15_0 hbw18
  have A15_1 : At (World.alloc w17 (.cells #[.float .f64 (ofKey (L11)), .float .f64 (ofKey (H11))] 28)) (w17.heap.size) 1 (.float .f64 (ofKey (H11))) := ⟨by simp [go_sem], by simp [go_sem]⟩
  replace A15_1 := At.below A15_1 hbw18
  replace B := below_step B B.size (below_alloc (hbw18))
  clear hbw18
  have F0_0 := A0_0.1; have G0_0 := A0_0.2
  have F0_1 := A0_1.1; have G0_1 := A0_1.2
  have F1_0 := A1_0.1; have G1_0 := A1_0.2
  have F1_1 := A1_1.1; have G1_1 := A1_1.2
  have F2_0 := A2_0.1; have G2_0 := A2_0.2
  have F2_1 := A2_1.1; have G2_1 := A2_1.2
  have F3_0 := A3_0.1; have G3_0 := A3_0.2
  have F3_1 := A3_1.1; have G3_1 := A3_1.2
  have F4_0 := A4_0.1; have G4_0 := A4_0.2
  have F4_1 := A4_1.1; have G4_1 := A4_1.2
  have F5_0 := A5_0.1; have G5_0 := A5_0.2
  have F5_1 := A5_1.1; have G5_1 := A5_1.2
  have F6_0 := A6_0.1; have G6_0 := A6_0.2
  have F6_1 := A6_1.1; have G6_1 := A6_1.2
  have F7_0 := A7_0.1; have G7_0 := A7_0.2
  have F7_1 := A7_1.1; have G7_1 := A7_1.2
  have F7_2 := A7_2.1; have G7_2 := A7_2.2
  have F7_3 := A7_3.1; have G7_3 := A7_3.2
  have F8_0 := A8_0.1; have G8_0 := A8_0.2
  have F8_1 := A8_1.1; have G8_1 := A8_1.2
  have F9_0 := A9_0.1; have G9_0 := A9_0.2
  have F9_1 := A9_1.1; have G9_1 := A9_1.2
  have F10_0 := A10_0.1; have G10_0 := A10_0.2
  have F10_1 := A10_1.1; have G10_1 := A10_1.2
  have F11_0 := A11_0.1; have G11_0 := A11_0.2
  have F11_1 := A11_1.1; have G11_1 := A11_1.2
  have F12_0 := A12_0.1; have G12_0 := A12_0.2
  have F12_1 := A12_1.1; have G12_1 := A12_1.2
  have F13_0 := A13_0.1; have G13_0 := A13_0.2
  have F13_1 := A13_1.1; have G13_1 := A13_1.2
  have F14_0 := A14_0.1; have G14_0 := A14_0.2
  have F14_1 := A14_1.1; have G14_1 := A14_1.2
  have F15_0 := A15_0.1; have G15_0 := A15_0.2
  have F15_1 := A15_1.1; have G15_1 := A15_1.2
  have Z0 := A0_0.lt
  have Z1 := A1_0.lt
  have Z2 := A2_0.lt
  have Z3 := A3_0.lt
  have Z4 := A4_0.lt
  have Z5 := A5_0.lt
  have Z6 := A6_0.lt
  have Z7 := A7_0.lt
  have Z8 := A8_0.lt
  have Z9 := A9_0.lt
  have Z10 := A10_0.lt
  have Z11 := A11_0.lt
  have Z12 := A12_0.lt
  have Z13 := A13_0.lt
  have Z14 := A14_0.lt
  have Z15 := A15_0.lt
  go_wp2_with fail
  refine (B2.out _).mono ?_
  rintro e w19 ⟨rfl, hbw19⟩
  clear F0_0 G0_0 F0_1 G0_1 F1_0 G1_0 F1_1 G1_1 F2_0 G2_0 F2_1 G2_1 F3_0 G3_0 F3_1 G3_1 F4_0 G4_0 F4_1 G4_1 F5_0 G5_0 F5_1 G5_1 F6_0 G6_0 F6_1 G6_1 F7_0 G7_0 F7_1 G7_1 F7_2 G7_2 F7_3 G7_3 F8_0 G8_0 F8_1 G8_1 F9_0 G9_0 F9_1 G9_1 F10_0 G10_0 F10_1 G10_1 F11_0 G11_0 F11_1 G11_1 F12_0 G12_0 F12_1 G12_1 F13_0 G13_0 F13_1 G13_1 F14_0 G14_0 F14_1 G14_1 F15_0 G15_0 F15_1 G15_1 Z0 Z1 Z2 Z3 Z4 Z5 Z6 Z7 Z8 Z9 Z10 Z11 Z12 Z13 Z14 Z15
  have n16 : w17.heap.size < w18.heap.size := At.lt A15_1
  replace A0_0 := At.below (At.alloc (A0_0)) hbw19
  replace A0_1 := At.below (At.alloc (A0_1)) hbw19
  replace A1_0 := At.below (At.alloc (A1_0)) hbw19
  replace A1_1 := At.below (At.alloc (A1_1)) hbw19
  replace A2_0 := At.below (At.alloc (A2_0)) hbw19
  replace A2_1 := At.below (At.alloc (A2_1)) hbw19
  replace A3_0 := At.below (At.alloc (A3_0)) hbw19
  replace A3_1 := At.below (At.alloc (A3_1)) hbw19
  replace A4_0 := At.below (At.alloc (A4_0)) hbw19
  replace A4_1 := At.below (At.alloc (A4_1)) hbw19
  replace A5_0 := At.below (At.alloc (A5_0)) hbw19
  replace A5_1 := At.below (At.alloc (A5_1)) hbw19
  replace A6_0 := At.below (At.alloc (A6_0)) hbw19
  replace A6_1 := At.below (At.alloc (A6_1)) hbw19
  replace A7_0 := At.below (At.alloc (A7_0)) hbw19
  replace A7_1 := At.below (At.alloc (A7_1)) hbw19
  replace A7_2 := At.below (At.alloc (A7_2)) hbw19
  replace A7_3 := At.below (At.alloc (A7_3)) hbw19
  replace A8_0 := At.below (At.alloc (A8_0)) hbw19
  replace A8_1 := At.below (At.alloc (A8_1)) hbw19
  replace A9_0 := At.below (At.alloc (A9_0)) hbw19
  replace A9_1 := At.below (At.alloc (A9_1)) hbw19
  replace A10_0 := At.below (At.alloc (A10_0)) hbw19
  replace A10_1 := At.below (At.alloc (A10_1)) hbw19
  replace A11_0 := At.below (At.alloc (A11_0)) hbw19
  replace A11_1 := At.below (At.alloc (A11_1)) hbw19
  replace A12_0 := At.below (At.alloc (A12_0)) hbw19
  replace A12_1 := At.below (At.alloc (A12_1)) hbw19
  replace A13_0 := At.below (At.alloc (A13_0)) hbw19
  replace A13_1 := At.below (At.alloc (A13_1)) hbw19
  replace A14_0 := At.below (At.alloc (A14_0)) hbw19
  replace A14_1 := At.below (At.alloc (A14_1)) hbw19
  replace A15_0 := At.below (At.alloc (A15_0)) hbw19
  replace A15_1 := At.below (At.alloc (A15_1)) hbw19
  have A16_0 : At (World.alloc w18 (.cells #[.float .f64 (ofKey (L)), .float .f64 (ofKey (H))] 28)) (w18.heap.size) 0 (.float .f64 (ofKey (L))) := ⟨by simp [go_sem], by simp [go_sem]⟩
  replace A16_0 := At.below A16_0 hbw19
  have A16_1 : At (World.alloc w18 (.cells #[.float .f64 (ofKey (L)), .float .f64 (ofKey (H))] 28)) (w18.heap.size) 1 (.float .f64 (ofKey (H))) := ⟨by simp [go_sem], by simp [go_sem]⟩
  replace A16_1 := At.below A16_1 hbw19
  replace B := below_step B B.size (below_alloc (hbw19))
  clear hbw19
  have F0_0 := A0_0.1; have G0_0 := A0_0.2
  have F0_1 := A0_1.1; have G0_1 := A0_1.2
  have F1_0 := A1_0.1; have G1_0 := A1_0.2
  have F1_1 := A1_1.1; have G1_1 := A1_1.2
  have F2_0 := A2_0.1; have G2_0 := A2_0.2
  have F2_1 := A2_1.1; have G2_1 := A2_1.2
  have F3_0 := A3_0.1; have G3_0 := A3_0.2
  have F3_1 := A3_1.1; have G3_1 := A3_1.2
  have F4_0 := A4_0.1; have G4_0 := A4_0.2
  have F4_1 := A4_1.1; have G4_1 := A4_1.2
  have F5_0 := A5_0.1; have G5_0 := A5_0.2
  have F5_1 := A5_1.1; have G5_1 := A5_1.2
  have F6_0 := A6_0.1; have G6_0 := A6_0.2
  have F6_1 := A6_1.1; have G6_1 := A6_1.2
  have F7_0 := A7_0.1; have G7_0 := A7_0.2
  have F7_1 := A7_1.1; have G7_1 := A7_1.2
  have F7_2 := A7_2.1; have G7_2 := A7_2.2
  have F7_3 := A7_3.1; have G7_3 := A7_3.2
  have F8_0 := A8_0.1; have G8_0 := A8_0.2
  have F8_1 := A8_1.1; have G8_1 := A8_1.2
  have F9_0 := A9_0.1; have G9_0 := A9_0.2
  have F9_1 := A9_1.1; have G9_1 := A9_1.2
  have F10_0 := A10_0.1; have G10_0 := A10_0.2
  have F10_1 := A10_1.1; have G10_1 := A10_1.2
  have F11_0 := A11_0.1; have G11_0 := A11_0.2
  have F11_1 := A11_1.1; have G11_1 := A11_1.2
  have F12_0 := A12_0.1; have G12_0 := A12_0.2
  have F12_1 := A12_1.1; have G12_1 := A12_1.2
  have F13_0 := A13_0.1; have G13_0 := A13_0.2
  have F13_1 := A13_1.1; have G13_1 := A13_1.2
  have F14_0 := A14_0.1; have G14_0 := A14_0.2
  have F14_1 := A14_1.1; have G14_1 := A14_1.2
  have F15_0 := A15_0.1; have G15_0 := A15_0.2
  have F15_1 := A15_1.1; have G15_1 := A15_1.2
  have F16_0 := A16_0.1; have G16_0 := A16_0.2
  have F16_1 := A16_1.1; have G16_1 := A16_1.2
  have Z0 := A0_0.lt
  have Z1 := A1_0.lt
  have Z2 := A2_0.lt
  have Z3 := A3_0.lt
  have Z4 := A4_0.lt
  have Z5 := A5_0.lt
  have Z6 := A6_0.lt
  have Z7 := A7_0.lt
  have Z8 := A8_0.lt
  have Z9 := A9_0.lt
  have Z10 := A10_0.lt
  have Z11 := A11_0.lt
  have Z12 := A12_0.lt
  have Z13 := A13_0.lt
  have Z14 := A14_0.lt
  have Z15 := A15_0.lt
  have Z16 := A16_0.lt
  go_wp2_with fail
  refine (B3.out _).mono ?_
  rintro e w20 ⟨rfl, hbw20⟩
  clear F0_0 G0_0 F0_1 G0_1 F1_0 G1_0 F1_1 G1_1 F2_0 G2_0 F2_1 G2_1 F3_0 G3_0 F3_1 G3_1 F4_0 G4_0 F4_1 G4_1 F5_0 G5_0 F5_1 G5_1 F6_0 G6_0 F6_1 G6_1 F7_0 G7_0 F7_1 G7_1 F7_2 G7_2 F7_3 G7_3 F8_0 G8_0 F8_1 G8_1 F9_0 G9_0 F9_1 G9_1 F10_0 G10_0 F10_1 G10_1 F11_0 G11_0 F11_1 G11_1 F12_0 G12_0 F12_1 G12_1 F13_0 G13_0 F13_1 G13_1 F14_0 G14_0 F14_1 G14_1 F15_0 G15_0 F15_1 G15_1 F16_0 G16_0 F16_1 G16_1 Z0 Z1 Z2 Z3 Z4 Z5 Z6 Z7 Z8 Z9 Z10 Z11 Z12 Z13 Z14 Z15 Z16
  have n17 : w18.heap.size < w19.heap.size := At.lt A16_1
  replace A0_0 := At.below (At.alloc (A0_0)) hbw20
  replace A0_1 := At.below (At.alloc (A0_1)) hbw20
  replace A1_0 := At.below (At.alloc (A1_0)) hbw20
  replace A1_1 := At.below (At.alloc (A1_1)) hbw20
  replace A2_0 := At.below (At.alloc (A2_0)) hbw20
  replace A2_1 := At.below (At.alloc (A2_1)) hbw20
  replace A3_0 := At.below (At.alloc (A3_0)) hbw20
  replace A3_1 := At.below (At.alloc (A3_1)) hbw20
  replace A4_0 := At.below (At.alloc (A4_0)) hbw20
  replace A4_1 := At.below (At.alloc (A4_1)) hbw20
  replace A5_0 := At.below (At.alloc (A5_0)) hbw20
  replace A5_1 := At.below (At.alloc (A5_1)) hbw20
  replace A6_0 := At.below (At.alloc (A6_0)) hbw20
  replace A6_1 := At.below (At.alloc (A6_1)) hbw20
  replace A7_0 := At.below (At.alloc (A7_0)) hbw20
  replace A7_1 := At.below (At.alloc (A7_1)) hbw20
  replace A7_2 := At.below (At.alloc (A7_2)) hbw20
  replace A7_3 := At.below (At.alloc (A7_3)) hbw20
  replace A8_0 := At.below (At.alloc (A8_0)) hbw20
  replace A8_1 := At.below (At.alloc (A8_1)) hbw20
  replace A9_0 := At.below (At.alloc (A9_0)) hbw20
  replace A9_1 := At.below (At.alloc (A9_1)) hbw20
  replace A10_0 := At.below (At.alloc (A10_0)) hbw20
  replace A10_1 := At.below (At.alloc (A10_1)) hbw20
  replace A11_0 := At.below (At.alloc (A11_0)) hbw20
  replace A11_1 := At.below (At.alloc (A11_1)) hbw20
  replace A12_0 := At.below (At.alloc (A12_0)) hbw20
  replace A12_1 := At.below (At.alloc (A12_1)) hbw20
  replace A13_0 := At.below (At.alloc (A13_0)) hbw20
  replace A13_1 := At.below (At.alloc (A13_1)) hbw20
  replace A14_0 := At.below (At.alloc (A14_0)) hbw20
  replace A14_1 := At.below (At.alloc (A14_1)) hbw20
  replace A15_0 := At.below (At.alloc (A15_0)) hbw20
  replace A15_1 := At.below (At.alloc (A15_1)) hbw20
  replace A16_0 := At.below (At.alloc (A16_0)) hbw20
  replace A16_1 := At.below (At.alloc (A16_1)) hbw20
  have A17_0 : At (World.alloc w19 (.cells #[.float .f64 (ofKey (U)), .float .f64 (ofKey (V))] 28)) (w19.heap.size) 0 (.float .f64 (ofKey (U))) := ⟨by simp [go_sem], by simp [go_sem]⟩
  replace A17_0 := At.below A17_0 hbw20
  have A17_1 : At (World.alloc w19 (.cells #[.float .f64 (ofKey (U)), .float .f64 (ofKey (V))] 28)) (w19.heap.size) 1 (.float .f64 (ofKey (V))) := ⟨by simp [go_sem], by simp [go_sem]⟩
  replace A17_1 := At.below A17_1 hbw20
  replace B := below_step B B.size (below_alloc (hbw20))
  clear hbw20
  have F0_0 := A0_0.1; have G0_0 := A0_0.2
  have F0_1 := A0_1.1; have G0_1 := A0_1.2
  have F1_0 := A1_0.1; have G1_0 := A1_0.2
  have F1_1 := A1_1.1; have G1_1 := A1_1.2
  have F2_0 := A2_0.1; have G2_0 := A2_0.2
  have F2_1 := A2_1.1; have G2_1 := A2_1.2
  have F3_0 := A3_0.1; have G3_0 := A3_0.2
  have F3_1 := A3_1.1; have G3_1 := A3_1.2
  have F4_0 := A4_0.1; have G4_0 := A4_0.2
  have F4_1 := A4_1.1; have G4_1 := A4_1.2
  have F5_0 := A5_0.1; have G5_0 := A5_0.2
  have F5_1 := A5_1.1; have G5_1 := A5_1.2
  have F6_0 := A6_0.1; have G6_0 := A6_0.2
  have F6_1 := A6_1.1; have G6_1 := A6_1.2
  have F7_0 := A7_0.1; have G7_0 := A7_0.2
  have F7_1 := A7_1.1; have G7_1 := A7_1.2
  have F7_2 := A7_2.1; have G7_2 := A7_2.2
  have F7_3 := A7_3.1; have G7_3 := A7_3.2
  have F8_0 := A8_0.1; have G8_0 := A8_0.2
  have F8_1 := A8_1.1; have G8_1 := A8_1.2
  have F9_0 := A9_0.1; have G9_0 := A9_0.2
  have F9_1 := A9_1.1; have G9_1 := A9_1.2
  have F10_0 := A10_0.1; have G10_0 := A10_0.2
  have F10_1 := A10_1.1; have G10_1 := A10_1.2
  have F11_0 := A11_0.1; have G11_0 := A11_0.2
  have F11_1 := A11_1.1; have G11_1 := A11_1.2
  have F12_0 := A12_0.1; have G12_0 := A12_0.2
  have F12_1 := A12_1.1; have G12_1 := A12_1.2
  have F13_0 := A13_0.1; have G13_0 := A13_0.2
  have F13_1 := A13_1.1; have G13_1 := A13_1.2
  have F14_0 := A14_0.1; have G14_0 := A14_0.2
  have F14_1 := A14_1.1; have G14_1 := A14_1.2
  have F15_0 := A15_0.1; have G15_0 := A15_0.2
  have F15_1 := A15_1.1; have G15_1 := A15_1.2
  have F16_0 := A16_0.1; have G16_0 := A16_0.2
  have F16_1 := A16_1.1; have G16_1 := A16_1.2
  have F17_0 := A17_0.1; have G17_0 := A17_0.2
  have F17_1 := A17_1.1; have G17_1 := A17_1.2
  have Z0 := A0_0.lt
  have Z1 := A1_0.lt
  have Z2 := A2_0.lt
  have Z3 := A3_0.lt
  have Z4 := A4_0.lt
  have Z5 := A5_0.lt
  have Z6 := A6_0.lt
  have Z7 := A7_0.lt
  have Z8 := A8_0.lt
  have Z9 := A9_0.lt
  have Z10 := A10_0.lt
  have Z11 := A11_0.lt
  have Z12 := A12_0.lt
  have Z13 := A13_0.lt
  have Z14 := A14_0.lt
  have Z15 := A15_0.lt
  have Z16 := A16_0.lt
  have Z17 := A17_0.lt
  go_wp2_with fail
  refine (B4.out _).mono ?_
  rintro e w21 ⟨rfl, hbw21⟩
  clear F0_0 G0_0 F0_1 G0_1 F1_0 G1_0 F1_1 G1_1 F2_0 G2_0 F2_1 G2_1 F3_0 G3_0 F3_1 G3_1 F4_0 G4_0 F4_1 G4_1 F5_0 G5_0 F5_1 G5_1 F6_0 G6_0 F6_1 G6_1 F7_0 G7_0 F7_1 G7_1 F7_2 G7_2 F7_3 G7_3 F8_0 G8_0 F8_1 G8_1 F9_0 G9_0 F9_1 G9_1 F10_0 G10_0 F10_1 G10_1 F11_0 G11_0 F11_1 G11_1 F12_0 G12_0 F12_1 G12_1 F13_0 G13_0 F13_1 G13_1 F14_0 G14_0 F14_1 G14_1 F15_0 G15_0 F15_1 G15_1 F16_0 G16_0 F16_1 G16_1 F17_0 G17_0 F17_1 G17_1 Z0 Z1 Z2 Z3 Z4 Z5 Z6 Z7 Z8 Z9 Z10 Z11 Z12 Z13 Z14 Z15 Z16 Z17
  have n18 : w19.heap.size < w20.heap.size := At.lt A17_1
  replace A0_0 := At.below (At.alloc (A0_0)) hbw21
  replace A0_1 := At.below (At.alloc (A0_1)) hbw21
  replace A1_0 := At.below (At.alloc (A1_0)) hbw21
  replace A1_1 := At.below (At.alloc (A1_1)) hbw21
  replace A2_0 := At.below (At.alloc (A2_0)) hbw21
  replace A2_1 := At.below (At.alloc (A2_1)) hbw21
  replace A3_0 := At.below (At.alloc (A3_0)) hbw21
  replace A3_1 := At.below (At.alloc (A3_1)) hbw21
  replace A4_0 := At.below (At.alloc (A4_0)) hbw21
  replace A4_1 := At.below (At.alloc (A4_1)) hbw21
  replace A5_0 := At.below (At.alloc (A5_0)) hbw21
  replace A5_1 := At.below (At.alloc (A5_1)) hbw21
  replace A6_0 := At.below (At.alloc (A6_0)) hbw21
  replace A6_1 := At.below (At.alloc (A6_1)) hbw21
  replace A7_0 := At.below (At.alloc (A7_0)) hbw21
  replace A7_1 := At.below (At.alloc (A7_1)) hbw21
  replace A7_2 := At.below (At.alloc (A7_2)) hbw21
  replace A7_3 := At.below (At.alloc (A7_3)) hbw21
  replace A8_0 := At.below (At.alloc (A8_0)) hbw21
  replace A8_1 := At.below (At.alloc (A8_1)) hbw21
  replace A9_0 := At.below (At.alloc (A9_0)) hbw21
  replace A9_1 := At.below (At.alloc (A9_1)) hbw21
  replace A10_0 := At.below (At.alloc (A10_0)) hbw21
  replace A10_1 := At.below (At.alloc (A10_1)) hbw21
  replace A11_0 := At.below (At.alloc (A11_0)) hbw21
  replace A11_1 := At.below (At.alloc (A11_1)) hbw21
  replace A12_0 := At.below (At.alloc (A12_0)) hbw21
  replace A12_1 := At.below (At.alloc (A12_1)) hbw21
  replace A13_0 := At.below (At.alloc (A13_0)) hbw21
  replace A13_1 := At.below (At.alloc (A13_1)) hbw21
  replace A14_0 := At.below (At.alloc (A14_0)) hbw21
  replace A14_1 := At.below (At.alloc (A14_1)) hbw21
  replace A15_0 := At.below (At.alloc (A15_0)) hbw21
  replace A15_1 := At.below (At.alloc (A15_1)) hbw21
  replace A16_0 := At.below (At.alloc (A16_0)) hbw21
  replace A16_1 := At.below (At.alloc (A16_1)) hbw21
  replace A17_0 := At.below (At.alloc (A17_0)) hbw21
  replace A17_1 := At.below (At.alloc (A17_1)) hbw21
  have A18_0 : At (World.alloc w20 (.cells #[.float .f64 (ofKey (U)), .float .f64 (ofKey (V))] 28)) (w20.heap.size) 0 (.float .f64 (ofKey (U))) := ⟨by simp [go_sem], by simp [go_sem]⟩
  replace A18_0 := At.below A18_0 hbw21
  have A18_1 : At (World.alloc w20 (.cells #[.float .f64 (ofKey (U)), .float .f64 (ofKey (V))] 28)) (w20.heap.size) 1 (.float .f64 (ofKey (V))) := ⟨by simp [go_sem], by simp [go_sem]⟩
  replace A18_1 := At.below A18_1 hbw21
  replace B := below_step B B.size (below_alloc (hbw21))
  clear hbw21
  have F0_0 := A0_0.1; have G0_0 := A0_0.2
  have F0_1 := A0_1.1; have G0_1 := A0_1.2
  have F1_0 := A1_0.1; have G1_0 := A1_0.2
  have F1_1 := A1_1.1; have G1_1 := A1_1.2
  have F2_0 := A2_0.1; have G2_0 := A2_0.2
  have F2_1 := A2_1.1; have G2_1 := A2_1.2
  have F3_0 := A3_0.1; have G3_0 := A3_0.2
  have F3_1 := A3_1.1; have G3_1 := A3_1.2
  have F4_0 := A4_0.1; have G4_0 := A4_0.2
  have F4_1 := A4_1.1; have G4_1 := A4_1.2
  have F5_0 := A5_0.1; have G5_0 := A5_0.2
  have F5_1 := A5_1.1; have G5_1 := A5_1.2
  have F6_0 := A6_0.1; have G6_0 := A6_0.2
  have F6_1 := A6_1.1; have G6_1 := A6_1.2
  have F7_0 := A7_0.1; have G7_0 := A7_0.2
  have F7_1 := A7_1.1; have G7_1 := A7_1.2
  have F7_2 := A7_2.1; have G7_2 := A7_2.2
  have F7_3 := A7_3.1; have G7_3 := A7_3.2
  have F8_0 := A8_0.1; have G8_0 := A8_0.2
  have F8_1 := A8_1.1; have G8_1 := A8_1.2
  have F9_0 := A9_0.1; have G9_0 := A9_0.2
  have F9_1 := A9_1.1; have G9_1 := A9_1.2
  have F10_0 := A10_0.1; have G10_0 := A10_0.2
  have F10_1 := A10_1.1; have G10_1 := A10_1.2
  have F11_0 := A11_0.1; have G11_0 := A11_0.2
  have F11_1 := A11_1.1; have G11_1 := A11_1.2
  have F12_0 := A12_0.1; have G12_0 := A12_0.2
  have F12_1 := A12_1.1; have G12_1 := A12_1.2
  have F13_0 := A13_0.1; have G13_0 := A13_0.2
  have F13_1 := A13_1.1; have G13_1 := A13_1.2
  have F14_0 := A14_0.1; have G14_0 := A14_0.2
  have F14_1 := A14_1.1; have G14_1 := A14_1.2
  have F15_0 := A15_0.1; have G15_0 := A15_0.2
  have F15_1 := A15_1.1; have G15_1 := A15_1.2
  have F16_0 := A16_0.1; have G16_0 := A16_0.2
  have F16_1 := A16_1.1; have G16_1 := A16_1.2
  have F17_0 := A17_0.1; have G17_0 := A17_0.2
  have F17_1 := A17_1.1; have G17_1 := A17_1.2
  have F18_0 := A18_0.1; have G18_0 := A18_0.2
  have F18_1 := A18_1.1; have G18_1 := A18_1.2
  have Z0 := A0_0.lt
  have Z1 := A1_0.lt
  have Z2 := A2_0.lt
  have Z3 := A3_0.lt
  have Z4 := A4_0.lt
  have Z5 := A5_0.lt
  have Z6 := A6_0.lt
  have Z7 := A7_0.lt
  have Z8 := A8_0.lt
  have Z9 := A9_0.lt
  have Z10 := A10_0.lt
  have Z11 := A11_0.lt
  have Z12 := A12_0.lt
  have Z13 := A13_0.lt
  have Z14 := A14_0.lt
  have Z15 := A15_0.lt
  have Z16 := A16_0.lt
  have Z17 := A17_0.lt
  have Z18 := A18_0.lt
  go_wp2_with fail
  refine (B5.out _).mono ?_
  rintro e w22 ⟨rfl, hbw22⟩
  clear F0_0 G0_0 F0_1 G0_1 F1_0 G1_0 F1_1 G1_1 F2_0 G2_0 F2_1 G2_1 F3_0 G3_0 F3_1 G3_1 F4_0 G4_0 F4_1 G4_1 F5_0 G5_0 F5_1 G5_1 F6_0 G6_0 F6_1 G6_1 F7_0 G7_0 F7_1 G7_1 F7_2 G7_2 F7_3 G7_3 F8_0 G8_0 F8_1 G8_1 F9_0 G9_0 F9_1 G9_1 F10_0 G10_0 F10_1 G10_1 F11_0 G11_0 F11_1 G11_1 F12_0 G12_0 F12_1 G12_1 F13_0 G13_0 F13_1 G13_1 F14_0 G14_0 F14_1 G14_1 F15_0 G15_0 F15_1 G15_1 F16_0 G16_0 F16_1 G16_1 F17_0 G17_0 F17_1 G17_1 F18_0 G18_0 F18_1 G18_1 Z0 Z1 Z2 Z3 Z4 Z5 Z6 Z7 Z8 Z9 Z10 Z11 Z12 Z13 Z14 Z15 Z16 Z17 Z18
  have n19 : w20.heap.size < w21.heap.size := At.lt A18_1
  replace A0_0 := At.below (At.alloc (A0_0)) hbw22
  replace A0_1 := At.below (At.alloc (A0_1)) hbw22
  replace A1_0 := At.below (At.alloc (A1_0)) hbw22
  replace A1_1 := At.below (At.alloc (A1_1)) hbw22
  replace A2_0 := At.below (At.alloc (A2_0)) hbw22
  replace A2_1 := At.below (At.alloc (A2_1)) hbw22
  replace A3_0 := At.below (At.alloc (A3_0)) hbw22
  replace A3_1 := At.below (At.alloc (A3_1)) hbw22
  replace A4_0 := At.below (At.alloc (A4_0)) hbw22
  replace A4_1 := At.below (At.alloc (A4_1)) hbw22
  replace A5_0 := At.below (At.alloc (A5_0)) hbw22
  replace A5_1 := At.below (At.alloc (A5_1)) hbw22
  replace A6_0 := At.below (At.alloc (A6_0)) hbw22
  replace A6_1 := At.below (At.alloc (A6_1)) hbw22
  replace A7_0 := At.below (At.alloc (A7_0)) hbw22
  replace A7_1 := At.below (At.alloc (A7_1)) hbw22
  replace A7_2 := At.below (At.alloc (A7_2)) hbw22
  replace A7_3 := At.below (At.alloc (A7_3)) hbw22
  replace A8_0 := At.below (At.alloc (A8_0)) hbw22
  replace A8_1 := At.below (At.alloc (A8_1)) hbw22
  replace A9_0 := At.below (At.alloc (A9_0)) hbw22
  replace A9_1 := At.below (At.alloc (A9_1)) hbw22
  replace A10_0 := At.below (At.alloc (A10_0)) hbw22
  replace A10_1 := At.below (At.alloc (A10_1)) hbw22
  replace A11_0 := At.below (At.alloc (A11_0)) hbw22
  replace A11_1 := At.below (At.alloc (A11_1)) hbw22
  replace A12_0 := At.below (At.alloc (A12_0)) hbw22
  replace A12_1 := At.below (At.alloc (A12_1)) hbw22
  replace A13_0 := At.below (At.alloc (A13_0)) hbw22
  replace A13_1 := At.below (At.alloc (A13_1)) hbw22
  replace A14_0 := At.below (At.alloc (A14_0)) hbw22
  replace A14_1 := At.below (At.alloc (A14_1)) hbw22
  replace A15_0 := At.below (At.alloc (A15_0)) hbw22
  replace A15_1 := At.below (At.alloc (A15_1)) hbw22
  replace A16_0 := At.below (At.alloc (A16_0)) hbw22
  replace A16_1 := At.below (At.alloc (A16_1)) hbw22
  replace A17_0 := At.below (At.alloc (A17_0)) hbw22
  replace A17_1 := At.below (At.alloc (A17_1)) hbw22
  replace A18_0 := At.below (At.alloc (A18_0)) hbw22
  replace A18_1 := At.below (At.alloc (A18_1)) hbw22
  have A19_0 : At (World.alloc w21 (.cells #[.float .f64 (ofKey (E)), .float .f64 (ofKey (F))] 28)) (w21.heap.size) 0 (.float .f64 (ofKey (E))) := ⟨by simp [go_sem], by simp [go_sem]⟩
  replace A19_0 := At.below A19_0 hbw22
  have A19_1 : At (World.alloc w21 (.cells #[.float .f64 (ofKey (E)), .float .f64 (ofKey (F))] 28)) (w21.heap.size) 1 (.float .f64 (ofKey (F))) := ⟨by simp [go_sem], by simp [go_sem]⟩
  replace A19_1 := At.below A19_1 hbw22
  replace B := below_step B B.size (below_alloc (hbw22))
  clear hbw22
  have F0_0 := A0_0.1; have G0_0 := A0_0.2
  have F0_1 := A0_1.1; have G0_1 := A0_1.2
  have F1_0 := A1_0.1; have G1_0 := A1_0.2
  have F1_1 := A1_1.1; have G1_1 := A1_1.2
  have F2_0 := A2_0.1; have G2_0 := A2_0.2
  have F2_1 := A2_1.1; have G2_1 := A2_1.2
  have F3_0 := A3_0.1; have G3_0 := A3_0.2
  have F3_1 := A3_1.1; have G3_1 := A3_1.2
  have F4_0 := A4_0.1; have G4_0 := A4_0.2
  have F4_1 := A4_1.1; have G4_1 := A4_1.2
  have F5_0 := A5_0.1; have G5_0 := A5_0.2
  have F5_1 := A5_1.1; have G5_1 := A5_1.2
  have F6_0 := A6_0.1; have G6_0 := A6_0.2
  have F6_1 := A6_1.1; have G6_1 := A6_1.2
  have F7_0 := A7_0.1; have G7_0 := A7_0.2
  have F7_1 := A7_1.1; have G7_1 := A7_1.2
  have F7_2 := A7_2.1; have G7_2 := A7_2.2
  have F7_3 := A7_3.1; have G7_3 := A7_3.2
  have F8_0 := A8_0.1; have G8_0 := A8_0.2
  have F8_1 := A8_1.1; have G8_1 := A8_1.2
  have F9_0 := A9_0.1; have G9_0 := A9_0.2
  have F9_1 := A9_1.1; have G9_1 := A9_1.2
  have F10_0 := A10_0.1; have G10_0 := A10_0.2
  have F10_1 := A10_1.1; have G10_1 := A10_1.2
  have F11_0 := A11_0.1; have G11_0 := A11_0.2
  have F11_1 := A11_1.1; have G11_1 := A11_1.2
  have F12_0 := A12_0.1; have G12_0 := A12_0.2
  have F12_1 := A12_1.1; have G12_1 := A12_1.2
  have F13_0 := A13_0.1; have G13_0 := A13_0.2
  have F13_1 := A13_1.1; have G13_1 := A13_1.2
  have F14_0 := A14_0.1; have G14_0 := A14_0.2
  have F14_1 := A14_1.1; have G14_1 := A14_1.2
  have F15_0 := A15_0.1; have G15_0 := A15_0.2
  have F15_1 := A15_1.1; have G15_1 := A15_1.2
  have F16_0 := A16_0.1; have G16_0 := A16_0.2
  have F16_1 := A16_1.1; have G16_1 := A16_1.2
  have F17_0 := A17_0.1; have G17_0 := A17_0.2
  have F17_1 := A17_1.1; have G17_1 := A17_1.2
  have F18_0 := A18_0.1; have G18_0 := A18_0.2
  have F18_1 := A18_1.1; have G18_1 := A18_1.2
  have F19_0 := A19_0.1; have G19_0 := A19_0.2
  have F19_1 := A19_1.1; have G19_1 := A19_1.2
  have Z0 := A0_0.lt
  have Z1 := A1_0.lt
  have Z2 := A2_0.lt
  have Z3 := A3_0.lt
  have Z4 := A4_0.lt
  have Z5 := A5_0.lt
  have Z6 := A6_0.lt
  have Z7 := A7_0.lt
  have Z8 := A8_0.lt
  have Z9 := A9_0.lt
  have Z10 := A10_0.lt
  have Z11 := A11_0.lt
  have Z12 := A12_0.lt
  have Z13 := A13_0.lt
  have Z14 := A14_0.lt
  have Z15 := A15_0.lt
  have Z16 := A16_0.lt
  have Z17 := A17_0.lt
  have Z18 := A18_0.lt
  have Z19 := A19_0.lt
  dsimp only
  iterate 4 go_step
  clear F0_0 G0_0 F0_1 G0_1 F1_0 G1_0 F1_1 G1_1 F2_0 G2_0 F2_1 G2_1 F3_0 G3_0 F3_1 G3_1 F4_0 G4_0 F4_1 G4_1 F5_0 G5_0 F5_1 G5_1 F6_0 G6_0 F6_1 G6_1 F7_0 G7_0 F7_1 G7_1 F7_2 G7_2 F7_3 G7_3 F8_0 G8_0 F8_1 G8_1 F9_0 G9_0 F9_1 G9_1 F10_0 G10_0 F10_1 G10_1 F11_0 G11_0 F11_1 G11_1 F12_0 G12_0 F12_1 G12_1 F13_0 G13_0 F13_1 G13_1 F14_0 G14_0 F14_1 G14_1 F15_0 G15_0 F15_1 G15_1 F16_0 G16_0 F16_1 G16_1 F17_0 G17_0 F17_1 G17_1 F18_0 G18_0 F18_1 G18_1 F19_0 G19_0 F19_1 G19_1 Z0 Z1 Z2 Z3 Z4 Z5 Z6 Z7 Z8 Z9 Z10 Z11 Z12 Z13 Z14 Z15 Z16 Z17 Z18 Z19
  replace A0_0 := At.set_blk (b' := w21.heap.size) (f' := 0) A0_0 (by first | omega | (have := B.size; omega)) (.float .f64 (ofKey (-F)))
  replace A0_1 := At.set_blk (b' := w21.heap.size) (f' := 0) A0_1 (by first | omega | (have := B.size; omega)) (.float .f64 (ofKey (-F)))
  replace A1_0 := At.set_blk (b' := w21.heap.size) (f' := 0) A1_0 (by first | omega | (have := B.size; omega)) (.float .f64 (ofKey (-F)))
  replace A1_1 := At.set_blk (b' := w21.heap.size) (f' := 0) A1_1 (by first | omega | (have := B.size; omega)) (.float .f64 (ofKey (-F)))
  replace A2_0 := At.set_blk (b' := w21.heap.size) (f' := 0) A2_0 (by first | omega | (have := B.size; omega)) (.float .f64 (ofKey (-F)))
  replace A2_1 := At.set_blk (b' := w21.heap.size) (f' := 0) A2_1 (by first | omega | (have := B.size; omega)) (.float .f64 (ofKey (-F)))
  replace A3_0 := At.set_blk (b' := w21.heap.size) (f' := 0) A3_0 (by first | omega | (have := B.size; omega)) (.float .f64 (ofKey (-F)))
  replace A3_1 := At.set_blk (b' := w21.heap.size) (f' := 0) A3_1 (by first | omega | (have := B.size; omega)) (.float .f64 (ofKey (-F)))
  replace A4_0 := At.set_blk (b' := w21.heap.size) (f' := 0) A4_0 (by first | omega | (have := B.size; omega)) (.float .f64 (ofKey (-F)))
  replace A4_1 := At.set_blk (b' := w21.heap.size) (f' := 0) A4_1 (by first | omega | (have := B.size; omega)) (.float .f64 (ofKey (-F)))
  replace A5_0 := At.set_blk (b' := w21.heap.size) (f' := 0) A5_0 (by first | omega | (have := B.size; omega)) (.float .f64 (ofKey (-F)))
  replace A5_1 := At.set_blk (b' := w21.heap.size) (f' := 0) A5_1 (by first | omega | (have := B.size; omega)) (.float .f64 (ofKey (-F)))
  replace A6_0 := At.set_blk (b' := w21.heap.size) (f' := 0) A6_0 (by first | omega | (have := B.size; omega)) (.float .f64 (ofKey (-F)))
  replace A6_1 := At.set_blk (b' := w21.heap.size) (f' := 0) A6_1 (by first | omega | (have := B.size; omega)) (.float .f64 (ofKey (-F)))
  replace A7_0 := At.set_blk (b' := w21.heap.size) (f' := 0) A7_0 (by first | omega | (have := B.size; omega)) (.float .f64 (ofKey (-F)))
  replace A7_1 := At.set_blk (b' := w21.heap.size) (f' := 0) A7_1 (by first | omega | (have := B.size; omega)) (.float .f64 (ofKey (-F)))
  replace A7_2 := At.set_blk (b' := w21.heap.size) (f' := 0) A7_2 (by first | omega | (have := B.size; omega)) (.float .f64 (ofKey (-F)))
  replace A7_3 := At.set_blk (b' := w21.heap.size) (f' := 0) A7_3 (by first | omega | (have := B.size; omega)) (.float .f64 (ofKey (-F)))
  replace A8_0 := At.set_blk (b' := w21.heap.size) (f' := 0) A8_0 (by first | omega | (have := B.size; omega)) (.float .f64 (ofKey (-F)))
  replace A8_1 := At.set_blk (b' := w21.heap.size) (f' := 0) A8_1 (by first | omega | (have := B.size; omega)) (.float .f64 (ofKey (-F)))
  replace A9_0 := At.set_blk (b' := w21.heap.size) (f' := 0) A9_0 (by first | omega | (have := B.size; omega)) (.float .f64 (ofKey (-F)))
  replace A9_1 := At.set_blk (b' := w21.heap.size) (f' := 0) A9_1 (by first | omega | (have := B.size; omega)) (.float .f64 (ofKey (-F)))
  replace A10_0 := At.set_blk (b' := w21.heap.size) (f' := 0) A10_0 (by first | omega | (have := B.size; omega)) (.float .f64 (ofKey (-F)))
  replace A10_1 := At.set_blk (b' := w21.heap.size) (f' := 0) A10_1 (by first | omega | (have := B.size; omega)) (.float .f64 (ofKey (-F)))
  replace A11_0 := At.set_blk (b' := w21.heap.size) (f' := 0) A11_0 (by first | omega | (have := B.size; omega)) (.float .f64 (ofKey (-F)))
  replace A11_1 := At.set_blk (b' := w21.heap.size) (f' := 0) A11_1 (by first | omega | (have := B.size; omega)) (.float .f64 (ofKey (-F)))
  replace A12_0 := At.set_blk (b' := w21.heap.size) (f' := 0) A12_0 (by first | omega | (have := B.size; omega)) (.float .f64 (ofKey (-F)))
  replace A12_1 := At.set_blk (b' := w21.heap.size) (f' := 0) A12_1 (by first | omega | (have := B.size; omega)) (.float .f64 (ofKey (-F)))
  replace A13_0 := At.set_blk (b' := w21.heap.size) (f' := 0) A13_0 (by first | omega | (have := B.size; omega)) (.float .f64 (ofKey (-F)))
  replace A13_1 := At.set_blk (b' := w21.heap.size) (f' := 0) A13_1 (by first | omega | (have := B.size; omega)) (.float .f64 (ofKey (-F)))
  replace A14_0 := At.set_blk (b' := w21.heap.size) (f' := 0) A14_0 (by first | omega | (have := B.size; omega)) (.float .f64 (ofKey (-F)))
  replace A14_1 := At.set_blk (b' := w21.heap.size) (f' := 0) A14_1 (by first | omega | (have := B.size; omega)) (.float .f64 (ofKey (-F)))
  replace A15_0 := At.set_blk (b' := w21.heap.size) (f' := 0) A15_0 (by first | omega | (have := B.size; omega)) (.float .f64 (ofKey (-F)))
  replace A15_1 := At.set_blk (b' := w21.heap.size) (f' := 0) A15_1 (by first | omega | (have := B.size; omega)) (.float .f64 (ofKey (-F)))
  replace A16_0 := At.set_blk (b' := w21.heap.size) (f' := 0) A16_0 (by first | omega | (have := B.size; omega)) (.float .f64 (ofKey (-F)))
  replace A16_1 := At.set_blk (b' := w21.heap.size) (f' := 0) A16_1 (by first | omega | (have := B.size; omega)) (.float .f64 (ofKey (-F)))
  replace A17_0 := At.set_blk (b' := w21.heap.size) (f' := 0) A17_0 (by first | omega | (have := B.size; omega)) (.float .f64 (ofKey (-F)))
  replace A17_1 := At.set_blk (b' := w21.heap.size) (f' := 0) A17_1 (by first | omega | (have := B.size; omega)) (.float .f64 (ofKey (-F)))
  replace A18_0 := At.set_blk (b' := w21.heap.size) (f' := 0) A18_0 (by first | omega | (have := B.size; omega)) (.float .f64 (ofKey (-F)))
  replace A18_1 := At.set_blk (b' := w21.heap.size) (f' := 0) A18_1 (by first | omega | (have := B.size; omega)) (.float .f64 (ofKey (-F)))
  replace A19_0 := At.set_same A19_0 (.float .f64 (ofKey (-F)))
  replace A19_1 := At.set_off (f' := 0) A19_1 (by decide) (.float .f64 (ofKey (-F)))
  replace A0_0 := At.set_blk (b' := w21.heap.size) (f' := 1) A0_0 (by first | omega | (have := B.size; omega)) (.float .f64 (ofKey (-E)))
  replace A0_1 := At.set_blk (b' := w21.heap.size) (f' := 1) A0_1 (by first | omega | (have := B.size; omega)) (.float .f64 (ofKey (-E)))
  replace A1_0 := At.set_blk (b' := w21.heap.size) (f' := 1) A1_0 (by first | omega | (have := B.size; omega)) (.float .f64 (ofKey (-E)))
  replace A1_1 := At.set_blk (b' := w21.heap.size) (f' := 1) A1_1 (by first | omega | (have := B.size; omega)) (.float .f64 (ofKey (-E)))
  replace A2_0 := At.set_blk (b' := w21.heap.size) (f' := 1) A2_0 (by first | omega | (have := B.size; omega)) (.float .f64 (ofKey (-E)))
  replace A2_1 := At.set_blk (b' := w21.heap.size) (f' := 1) A2_1 (by first | omega | (have := B.size; omega)) (.float .f64 (ofKey (-E)))
  replace A3_0 := At.set_blk (b' := w21.heap.size) (f' := 1) A3_0 (by first | omega | (have := B.size; omega)) (.float .f64 (ofKey (-E)))
  replace A3_1 := At.set_blk (b' := w21.heap.size) (f' := 1) A3_1 (by first | omega | (have := B.size; omega)) (.float .f64 (ofKey (-E)))
  replace A4_0 := At.set_blk (b' := w21.heap.size) (f' := 1) A4_0 (by first | omega | (have := B.size; omega)) (.float .f64 (ofKey (-E)))
  replace A4_1 := At.set_blk (b' := w21.heap.size) (f' := 1) A4_1 (by first | omega | (have := B.size; omega)) (.float .f64 (ofKey (-E)))
  replace A5_0 := At.set_blk (b' := w21.heap.size) (f' := 1) A5_0 (by first | omega | (have := B.size; omega)) (.float .f64 (ofKey (-E)))
  replace A5_1 := At.set_blk (b' := w21.heap.size) (f' := 1) A5_1 (by first | omega | (have := B.size; omega)) (.float .f64 (ofKey (-E)))
  replace A6_0 := At.set_blk (b' := w21.heap.size) (f' := 1) A6_0 (by first | omega | (have := B.size; omega)) (.float .f64 (ofKey (-E)))
  replace A6_1 := At.set_blk (b' := w21.heap.size) (f' := 1) A6_1 (by first | omega | (have := B.size; omega)) (.float .f64 (ofKey (-E)))
  replace A7_0 := At.set_blk (b' := w21.heap.size) (f' := 1) A7_0 (by first | omega | (have := B.size; omega)) (.float .f64 (ofKey (-E)))
  replace A7_1 := At.set_blk (b' := w21.heap.size) (f' := 1) A7_1 (by first | omega | (have := B.size; omega)) (.float .f64 (ofKey (-E)))
  replace A7_2 := At.set_blk (b' := w21.heap.size) (f' := 1) A7_2 (by first | omega | (have := B.size; omega)) (.float .f64 (ofKey (-E)))
  replace A7_3 := At.set_blk (b' := w21.heap.size) (f' := 1) A7_3 (by first | omega | (have := B.size; omega)) (.float .f64 (ofKey (-E)))
  replace A8_0 := At.set_blk (b' := w21.heap.size) (f' := 1) A8_0 (by first | omega | (have := B.size; omega)) (.float .f64 (ofKey (-E)))
  replace A8_1 := At.set_blk (b' := w21.heap.size) (f' := 1) A8_1 (by first | omega | (have := B.size; omega)) (.float .f64 (ofKey (-E)))
  replace A9_0 := At.set_blk (b' := w21.heap.size) (f' := 1) A9_0 (by first | omega | (have := B.size; omega)) (.float .f64 (ofKey (-E)))
  replace A9_1 := At.set_blk (b' := w21.heap.size) (f' := 1) A9_1 (by first | omega | (have := B.size; omega)) (.float .f64 (ofKey (-E)))
  replace A10_0 := At.set_blk (b' := w21.heap.size) (f' := 1) A10_0 (by first | omega | (have := B.size; omega)) (.float .f64 (ofKey (-E)))
  replace A10_1 := At.set_blk (b' := w21.heap.size) (f' := 1) A10_1 (by first | omega | (have := B.size; omega)) (.float .f64 (ofKey (-E)))
  replace A11_0 := At.set_blk (b' := w21.heap.size) (f' := 1) A11_0 (by first | omega | (have := B.size; omega)) (.float .f64 (ofKey (-E)))
  replace A11_1 := At.set_blk (b' := w21.heap.size) (f' := 1) A11_1 (by first | omega | (have := B.size; omega)) (.float .f64 (ofKey (-E)))
  replace A12_0 := At.set_blk (b' := w21.heap.size) (f' := 1) A12_0 (by first | omega | (have := B.size; omega)) (.float .f64 (ofKey (-E)))
  replace A12_1 := At.set_blk (b' := w21.heap.size) (f' := 1) A12_1 (by first | omega | (have := B.size; omega)) (.float .f64 (ofKey (-E)))
  replace A13_0 := At.set_blk (b' := w21.heap.size) (f' := 1) A13_0 (by first | omega | (have := B.size; omega)) (.float .f64 (ofKey (-E)))
  replace A13_1 := At.set_blk (b' := w21.heap.size) (f' := 1) A13_1 (by first | omega | (have := B.size; omega)) (.float .f64 (ofKey (-E)))
  replace A14_0 := At.set_blk (b' := w21.heap.size) (f' := 1) A14_0 (by first | omega | (have := B.size; omega)) (.float .f64 (ofKey (-E)))
  replace A14_1 := At.set_blk (b' := w21.heap.size) (f' := 1) A14_1 (by first | omega | (have := B.size; omega)) (.float .f64 (ofKey (-E)))
  replace A15_0 := At.set_blk (b' := w21.heap.size) (f' := 1) A15_0 (by first | omega | (have := B.size; omega)) (.float .f64 (ofKey (-E)))
  replace A15_1 := At.set_blk (b' := w21.heap.size) (f' := 1) A15_1 (by first | omega | (have := B.size; omega)) (.float .f64 (ofKey (-E)))
  replace A16_0 := At.set_blk (b' := w21.heap.size) (f' := 1) A16_0 (by first | omega | (have := B.size; omega)) (.float .f64 (ofKey (-E)))
  replace A16_1 := At.set_blk (b' := w21.heap.size) (f' := 1) A16_1 (by first | omega | (have := B.size; omega)) (.float .f64 (ofKey (-E)))
  replace A17_0 := At.set_blk (b' := w21.heap.size) (f' := 1) A17_0 (by first | omega | (have := B.size; omega)) (.float .f64 (ofKey (-E)))
  replace A17_1 := At.set_blk (b' := w21.heap.size) (f' := 1) A17_1 (by first | omega | (have := B.size; omega)) (.float .f64 (ofKey (-E)))
  replace A18_0 := At.set_blk (b' := w21.heap.size) (f' := 1) A18_0 (by first | omega | (have := B.size; omega)) (.float .f64 (ofKey (-E)))
  replace A18_1 := At.set_blk (b' := w21.heap.size) (f' := 1) A18_1 (by first | omega | (have := B.size; omega)) (.float .f64 (ofKey (-E)))
  replace A19_0 := At.set_off (f' := 1) A19_0 (by decide) (.float .f64 (ofKey (-E)))
  replace A19_1 := At.set_same A19_1 (.float .f64 (ofKey (-E)))
  have B' : Below w.heap.size w (World.setCell (World.setCell w22 ⟨w21.heap.size, 0, none⟩ (.float .f64 (ofKey (-F)))) ⟨w21.heap.size, 1, none⟩ (.float .f64 (ofKey (-E)))) := (Below.setCell (Below.setCell B (p := ⟨w21.heap.size, 0, none⟩) (by first | (show w.heap.size ≤ w21.heap.size; omega) | (have := B.size; show w.heap.size ≤ w21.heap.size; omega)) (.float .f64 (ofKey (-F)))) (p := ⟨w21.heap.size, 1, none⟩) (by first | (show w.heap.size ≤ w21.heap.size; omega) | (have := B.size; show w.heap.size ≤ w21.heap.size; omega)) (.float .f64 (ofKey (-E))))
  clear B
  obtain ⟨w23, hw23⟩ : ∃ w23, w23 = (World.setCell (World.setCell w22 ⟨w21.heap.size, 0, none⟩ (.float .f64 (ofKey (-F)))) ⟨w21.heap.size, 1, none⟩ (.float .f64 (ofKey (-E)))) := ⟨_, rfl⟩
  rw [← hw23]
  replace A0_0 := At.of A0_0 hw23
  replace A0_1 := At.of A0_1 hw23
  replace A1_0 := At.of A1_0 hw23
  replace A1_1 := At.of A1_1 hw23
  replace A2_0 := At.of A2_0 hw23
  replace A2_1 := At.of A2_1 hw23
  replace A3_0 := At.of A3_0 hw23
  replace A3_1 := At.of A3_1 hw23
  replace A4_0 := At.of A4_0 hw23
  replace A4_1 := At.of A4_1 hw23
  replace A5_0 := At.of A5_0 hw23
  replace A5_1 := At.of A5_1 hw23
  replace A6_0 := At.of A6_0 hw23
  replace A6_1 := At.of A6_1 hw23
  replace A7_0 := At.of A7_0 hw23
  replace A7_1 := At.of A7_1 hw23
  replace A7_2 := At.of A7_2 hw23
  replace A7_3 := At.of A7_3 hw23
  replace A8_0 := At.of A8_0 hw23
  replace A8_1 := At.of A8_1 hw23
  replace A9_0 := At.of A9_0 hw23
  replace A9_1 := At.of A9_1 hw23
  replace A10_0 := At.of A10_0 hw23
  replace A10_1 := At.of A10_1 hw23
  replace A11_0 := At.of A11_0 hw23
  replace A11_1 := At.of A11_1 hw23
  replace A12_0 := At.of A12_0 hw23
  replace A12_1 := At.of A12_1 hw23
  replace A13_0 := At.of A13_0 hw23
  replace A13_1 := At.of A13_1 hw23
  replace A14_0 := At.of A14_0 hw23
  replace A14_1 := At.of A14_1 hw23
  replace A15_0 := At.of A15_0 hw23
  replace A15_1 := At.of A15_1 hw23
  replace A16_0 := At.of A16_0 hw23
  replace A16_1 := At.of A16_1 hw23
  replace A17_0 := At.of A17_0 hw23
  replace A17_1 := At.of A17_1 hw23
  replace A18_0 := At.of A18_0 hw23
  replace A18_1 := At.of A18_1 hw23
  replace A19_0 := At.of A19_0 hw23
  replace A19_1 := At.of A19_1 hw23
  have B := below_of B' hw23
  clear B' hw23
  have F0_0 := A0_0.1; have G0_0 := A0_0.2
  have F0_1 := A0_1.1; have G0_1 := A0_1.2
  have F1_0 := A1_0.1; have G1_0 := A1_0.2
  have F1_1 := A1_1.1; have G1_1 := A1_1.2
  have F2_0 := A2_0.1; have G2_0 := A2_0.2
  have F2_1 := A2_1.1; have G2_1 := A2_1.2
  have F3_0 := A3_0.1; have G3_0 := A3_0.2
  have F3_1 := A3_1.1; have G3_1 := A3_1.2
  have F4_0 := A4_0.1; have G4_0 := A4_0.2
  have F4_1 := A4_1.1; have G4_1 := A4_1.2
  have F5_0 := A5_0.1; have G5_0 := A5_0.2
  have F5_1 := A5_1.1; have G5_1 := A5_1.2
  have F6_0 := A6_0.1; have G6_0 := A6_0.2
  have F6_1 := A6_1.1; have G6_1 := A6_1.2
  have F7_0 := A7_0.1; have G7_0 := A7_0.2
  have F7_1 := A7_1.1; have G7_1 := A7_1.2
  have F7_2 := A7_2.1; have G7_2 := A7_2.2
  have F7_3 := A7_3.1; have G7_3 := A7_3.2
  have F8_0 := A8_0.1; have G8_0 := A8_0.2
  have F8_1 := A8_1.1; have G8_1 := A8_1.2
  have F9_0 := A9_0.1; have G9_0 := A9_0.2
  have F9_1 := A9_1.1; have G9_1 := A9_1.2
  have F10_0 := A10_0.1; have G10_0 := A10_0.2
  have F10_1 := A10_1.1; have G10_1 := A10_1.2
  have F11_0 := A11_0.1; have G11_0 := A11_0.2
  have F11_1 := A11_1.1; have G11_1 := A11_1.2
  have F12_0 := A12_0.1; have G12_0 := A12_0.2
  have F12_1 := A12_1.1; have G12_1 := A12_1.2
  have F13_0 := A13_0.1; have G13_0 := A13_0.2
  have F13_1 := A13_1.1; have G13_1 := A13_1.2
  have F14_0 := A14_0.1; have G14_0 := A14_0.2
  have F14_1 := A14_1.1; have G14_1 := A14_1.2
  have F15_0 := A15_0.1; have G15_0 := A15_0.2
  have F15_1 := A15_1.1; have G15_1 := A15_1.2
  have F16_0 := A16_0.1; have G16_0 := A16_0.2
  have F16_1 := A16_1.1; have G16_1 := A16_1.2
  have F17_0 := A17_0.1; have G17_0 := A17_0.2
  have F17_1 := A17_1.1; have G17_1 := A17_1.2
  have F18_0 := A18_0.1; have G18_0 := A18_0.2
  have F18_1 := A18_1.1; have G18_1 := A18_1.2
  have F19_0 := A19_0.1; have G19_0 := A19_0.2
  have F19_1 := A19_1.1; have G19_1 := A19_1.2
  have Z0 := A0_0.lt
  have Z1 := A1_0.lt
  have Z2 := A2_0.lt
  have Z3 := A3_0.lt
  have Z4 := A4_0.lt
  have Z5 := A5_0.lt
  have Z6 := A6_0.lt
  have Z7 := A7_0.lt
  have Z8 := A8_0.lt
  have Z9 := A9_0.lt
  have Z10 := A10_0.lt
  have Z11 := A11_0.lt
  have Z12 := A12_0.lt
  have Z13 := A13_0.lt
  have Z14 := A14_0.lt
  have Z15 := A15_0.lt
  have Z16 := A16_0.lt
  have Z17 := A17_0.lt
  have Z18 := A18_0.lt
  have Z19 := A19_0.lt
  go_wp2_with fail
  refine (B6.out _).mono ?_
  rintro e w24 ⟨rfl, hbw24⟩
  clear F0_0 G0_0 F0_1 G0_1 F1_0 G1_0 F1_1 G1_1 F2_0 G2_0 F2_1 G2_1 F3_0 G3_0 F3_1 G3_1 F4_0 G4_0 F4_1 G4_1 F5_0 G5_0 F5_1 G5_1 F6_0 G6_0 F6_1 G6_1 F7_0 G7_0 F7_1 G7_1 F7_2 G7_2 F7_3 G7_3 F8_0 G8_0 F8_1 G8_1 F9_0 G9_0 F9_1 G9_1 F10_0 G10_0 F10_1 G10_1 F11_0 G11_0 F11_1 G11_1 F12_0 G12_0 F12_1 G12_1 F13_0 G13_0 F13_1 G13_1 F14_0 G14_0 F14_1 G14_1 F15_0 G15_0 F15_1 G15_1 F16_0 G16_0 F16_1 G16_1 F17_0 G17_0 F17_1 G17_1 F18_0 G18_0 F18_1 G18_1 F19_0 G19_0 F19_1 G19_1 Z0 Z1 Z2 Z3 Z4 Z5 Z6 Z7 Z8 Z9 Z10 Z11 Z12 Z13 Z14 Z15 Z16 Z17 Z18 Z19
  replace A0_0 := At.below (A0_0) hbw24
  replace A0_1 := At.below (A0_1) hbw24
  replace A1_0 := At.below (A1_0) hbw24
  replace A1_1 := At.below (A1_1) hbw24
  replace A2_0 := At.below (A2_0) hbw24
  replace A2_1 := At.below (A2_1) hbw24
  replace A3_0 := At.below (A3_0) hbw24
  replace A3_1 := At.below (A3_1) hbw24
  replace A4_0 := At.below (A4_0) hbw24
  replace A4_1 := At.below (A4_1) hbw24
  replace A5_0 := At.below (A5_0) hbw24
  replace A5_1 := At.below (A5_1) hbw24
  replace A6_0 := At.below (A6_0) hbw24
  replace A6_1 := At.below (A6_1) hbw24
  replace A7_0 := At.below (A7_0) hbw24
  replace A7_1 := At.below (A7_1) hbw24
  replace A7_2 := At.below (A7_2) hbw24
  replace A7_3 := At.below (A7_3) hbw24
  replace A8_0 := At.below (A8_0) hbw24
  replace A8_1 := At.below (A8_1) hbw24
  replace A9_0 := At.below (A9_0) hbw24
  replace A9_1 := At.below (A9_1) hbw24
  replace A10_0 := At.below (A10_0) hbw24
  replace A10_1 := At.below (A10_1) hbw24
  replace A11_0 := At.below (A11_0) hbw24
  replace A11_1 := At.below (A11_1) hbw24
  replace A12_0 := At.below (A12_0) hbw24
  replace A12_1 := At.below (A12_1) hbw24
  replace A13_0 := At.below (A13_0) hbw24
  replace A13_1 := At.below (A13_1) hbw24
  replace A14_0 := At.below (A14_0) hbw24
  replace A14_1 := At.below (A14_1) hbw24
  replace A15_0 := At.below (A15_0) hbw24
  replace A15_1 := At.below (A15_1) hbw24
  replace A16_0 := At.below (A16_0) hbw24
  replace A16_1 := At.below (A16_1) hbw24
  replace A17_0 := At.below (A17_0) hbw24
  replace A17_1 := At.below (A17_1) hbw24
  replace A18_0 := At.below (A18_0) hbw24
  replace A18_1 := At.below (A18_1) hbw24
  replace A19_0 := At.below (A19_0) hbw24
  replace A19_1 := At.below (A19_1) hbw24
  replace B := below_step B B.size (hbw24)
  clear hbw24
  have F0_0 := A0_0.1; have G0_0 := A0_0.2
  have F0_1 := A0_1.1; have G0_1 := A0_1.2
  have F1_0 := A1_0.1; have G1_0 := A1_0.2
  have F1_1 := A1_1.1; have G1_1 := A1_1.2
  have F2_0 := A2_0.1; have G2_0 := A2_0.2
  have F2_1 := A2_1.1; have G2_1 := A2_1.2
  have F3_0 := A3_0.1; have G3_0 := A3_0.2
  have F3_1 := A3_1.1; have G3_1 := A3_1.2
  have F4_0 := A4_0.1; have G4_0 := A4_0.2
  have F4_1 := A4_1.1; have G4_1 := A4_1.2
  have F5_0 := A5_0.1; have G5_0 := A5_0.2
  have F5_1 := A5_1.1; have G5_1 := A5_1.2
  have F6_0 := A6_0.1; have G6_0 := A6_0.2
  have F6_1 := A6_1.1; have G6_1 := A6_1.2
  have F7_0 := A7_0.1; have G7_0 := A7_0.2
  have F7_1 := A7_1.1; have G7_1 := A7_1.2
  have F7_2 := A7_2.1; have G7_2 := A7_2.2
  have F7_3 := A7_3.1; have G7_3 := A7_3.2
  have F8_0 := A8_0.1; have G8_0 := A8_0.2
  have F8_1 := A8_1.1; have G8_1 := A8_1.2
  have F9_0 := A9_0.1; have G9_0 := A9_0.2
  have F9_1 := A9_1.1; have G9_1 := A9_1.2
  have F10_0 := A10_0.1; have G10_0 := A10_0.2
  have F10_1 := A10_1.1; have G10_1 := A10_1.2
  have F11_0 := A11_0.1; have G11_0 := A11_0.2
  have F11_1 := A11_1.1; have G11_1 := A11_1.2
  have F12_0 := A12_0.1; have G12_0 := A12_0.2
  have F12_1 := A12_1.1; have G12_1 := A12_1.2
  have F13_0 := A13_0.1; have G13_0 := A13_0.2
  have F13_1 := A13_1.1; have G13_1 := A13_1.2
  have F14_0 := A14_0.1; have G14_0 := A14_0.2
  have F14_1 := A14_1.1; have G14_1 := A14_1.2
  have F15_0 := A15_0.1; have G15_0 := A15_0.2
  have F15_1 := A15_1.1; have G15_1 := A15_1.2
  have F16_0 := A16_0.1; have G16_0 := A16_0.2
  have F16_1 := A16_1.1; have G16_1 := A16_1.2
  have F17_0 := A17_0.1; have G17_0 := A17_0.2
  have F17_1 := A17_1.1; have G17_1 := A17_1.2
  have F18_0 := A18_0.1; have G18_0 := A18_0.2
  have F18_1 := A18_1.1; have G18_1 := A18_1.2
  have F19_0 := A19_0.1; have G19_0 := A19_0.2
  have F19_1 := A19_1.1; have G19_1 := A19_1.2
  have Z0 := A0_0.lt
  have Z1 := A1_0.lt
  have Z2 := A2_0.lt
  have Z3 := A3_0.lt
  have Z4 := A4_0.lt
  have Z5 := A5_0.lt
  have Z6 := A6_0.lt
  have Z7 := A7_0.lt
  have Z8 := A8_0.lt
  have Z9 := A9_0.lt
  have Z10 := A10_0.lt
  have Z11 := A11_0.lt
  have Z12 := A12_0.lt
  have Z13 := A13_0.lt
  have Z14 := A14_0.lt
  have Z15 := A15_0.lt
  have Z16 := A16_0.lt
  have Z17 := A17_0.lt
  have Z18 := A18_0.lt
  have Z19 := A19_0.lt
  go_wp2_with fail
  refine (AL.out _).mono ?_
  rintro e w25 ⟨rfl, hbw25⟩
  clear F0_0 G0_0 F0_1 G0_1 F1_0 G1_0 F1_1 G1_1 F2_0 G2_0 F2_1 G2_1 F3_0 G3_0 F3_1 G3_1 F4_0 G4_0 F4_1 G4_1 F5_0 G5_0 F5_1 G5_1 F6_0 G6_0 F6_1 G6_1 F7_0 G7_0 F7_1 G7_1 F7_2 G7_2 F7_3 G7_3 F8_0 G8_0 F8_1 G8_1 F9_0 G9_0 F9_1 G9_1 F10_0 G10_0 F10_1 G10_1 F11_0 G11_0 F11_1 G11_1 F12_0 G12_0 F12_1 G12_1 F13_0 G13_0 F13_1 G13_1 F14_0 G14_0 F14_1 G14_1 F15_0 G15_0 F15_1 G15_1 F16_0 G16_0 F16_1 G16_1 F17_0 G17_0 F17_1 G17_1 F18_0 G18_0 F18_1 G18_1 F19_0 G19_0 F19_1 G19_1 Z0 Z1 Z2 Z3 Z4 Z5 Z6 Z7 Z8 Z9 Z10 Z11 Z12 Z13 Z14 Z15 Z16 Z17 Z18 Z19
  have n20 : w21.heap.size < w24.heap.size := At.lt A19_1
  replace A0_0 := At.below (At.alloc (A0_0)) hbw25
  replace A0_1 := At.below (At.alloc (A0_1)) hbw25
  replace A1_0 := At.below (At.alloc (A1_0)) hbw25
  replace A1_1 := At.below (At.alloc (A1_1)) hbw25
  replace A2_0 := At.below (At.alloc (A2_0)) hbw25
  replace A2_1 := At.below (At.alloc (A2_1)) hbw25
  replace A3_0 := At.below (At.alloc (A3_0)) hbw25
  replace A3_1 := At.below (At.alloc (A3_1)) hbw25
  replace A4_0 := At.below (At.alloc (A4_0)) hbw25
  replace A4_1 := At.below (At.alloc (A4_1)) hbw25
  replace A5_0 := At.below (At.alloc (A5_0)) hbw25
  replace A5_1 := At.below (At.alloc (A5_1)) hbw25
  replace A6_0 := At.below (At.alloc (A6_0)) hbw25
  replace A6_1 := At.below (At.alloc (A6_1)) hbw25
  replace A7_0 := At.below (At.alloc (A7_0)) hbw25
  replace A7_1 := At.below (At.alloc (A7_1)) hbw25
  replace A7_2 := At.below (At.alloc (A7_2)) hbw25
  replace A7_3 := At.below (At.alloc (A7_3)) hbw25
  replace A8_0 := At.below (At.alloc (A8_0)) hbw25
  replace A8_1 := At.below (At.alloc (A8_1)) hbw25
  replace A9_0 := At.below (At.alloc (A9_0)) hbw25
  replace A9_1 := At.below (At.alloc (A9_1)) hbw25
  replace A10_0 := At.below (At.alloc (A10_0)) hbw25
  replace A10_1 := At.below (At.alloc (A10_1)) hbw25
  replace A11_0 := At.below (At.alloc (A11_0)) hbw25
  replace A11_1 := At.below (At.alloc (A11_1)) hbw25
  replace A12_0 := At.below (At.alloc (A12_0)) hbw25
  replace A12_1 := At.below (At.alloc (A12_1)) hbw25
  replace A13_0 := At.below (At.alloc (A13_0)) hbw25
  replace A13_1 := At.below (At.alloc (A13_1)) hbw25
  replace A14_0 := At.below (At.alloc (A14_0)) hbw25
  replace A14_1 := At.below (At.alloc (A14_1)) hbw25
  replace A15_0 := At.below (At.alloc (A15_0)) hbw25
  replace A15_1 := At.below (At.alloc (A15_1)) hbw25
  replace A16_0 := At.below (At.alloc (A16_0)) hbw25
  replace A16_1 := At.below (At.alloc (A16_1)) hbw25
  replace A17_0 := At.below (At.alloc (A17_0)) hbw25
  replace A17_1 := At.below (At.alloc (A17_1)) hbw25
  replace A18_0 := At.below (At.alloc (A18_0)) hbw25
  replace A18_1 := At.below (At.alloc (A18_1)) hbw25
  replace A19_0 := At.below (At.alloc (A19_0)) hbw25
  replace A19_1 := At.below (At.alloc (A19_1)) hbw25
  have A20_0 : At (World.alloc w24 (.cells #[.float .f64 (ofKey (-F)), .float .f64 (ofKey (-E))] 28)) (w24.heap.size) 0 (.float .f64 (ofKey (-F))) := ⟨by simp [go_sem], by simp [go_sem]⟩
  replace A20_0 := At.below A20_0 hbw25
  have A20_1 : At (World.alloc w24 (.cells #[.float .f64 (ofKey (-F)), .float .f64 (ofKey (-E))] 28)) (w24.heap.size) 1 (.float .f64 (ofKey (-E))) := ⟨by simp [go_sem], by simp [go_sem]⟩
  replace A20_1 := At.below A20_1 hbw25
  replace B := below_step B B.size (below_alloc (hbw25))
  clear hbw25
  have F0_0 := A0_0.1; have G0_0 := A0_0.2
  have F0_1 := A0_1.1; have G0_1 := A0_1.2
  have F1_0 := A1_0.1; have G1_0 := A1_0.2
  have F1_1 := A1_1.1; have G1_1 := A1_1.2
  have F2_0 := A2_0.1; have G2_0 := A2_0.2
  have F2_1 := A2_1.1; have G2_1 := A2_1.2
  have F3_0 := A3_0.1; have G3_0 := A3_0.2
  have F3_1 := A3_1.1; have G3_1 := A3_1.2
  have F4_0 := A4_0.1; have G4_0 := A4_0.2
  have F4_1 := A4_1.1; have G4_1 := A4_1.2
  have F5_0 := A5_0.1; have G5_0 := A5_0.2
  have F5_1 := A5_1.1; have G5_1 := A5_1.2
  have F6_0 := A6_0.1; have G6_0 := A6_0.2
  have F6_1 := A6_1.1; have G6_1 := A6_1.2
  have F7_0 := A7_0.1; have G7_0 := A7_0.2
  have F7_1 := A7_1.1; have G7_1 := A7_1.2
  have F7_2 := A7_2.1; have G7_2 := A7_2.2
  have F7_3 := A7_3.1; have G7_3 := A7_3.2
  have F8_0 := A8_0.1; have G8_0 := A8_0.2
  have F8_1 := A8_1.1; have G8_1 := A8_1.2
  have F9_0 := A9_0.1; have G9_0 := A9_0.2
  have F9_1 := A9_1.1; have G9_1 := A9_1.2
  have F10_0 := A10_0.1; have G10_0 := A10_0.2
  have F10_1 := A10_1.1; have G10_1 := A10_1.2
  have F11_0 := A11_0.1; have G11_0 := A11_0.2
  have F11_1 := A11_1.1; have G11_1 := A11_1.2
  have F12_0 := A12_0.1; have G12_0 := A12_0.2
  have F12_1 := A12_1.1; have G12_1 := A12_1.2
  have F13_0 := A13_0.1; have G13_0 := A13_0.2
  have F13_1 := A13_1.1; have G13_1 := A13_1.2
  have F14_0 := A14_0.1; have G14_0 := A14_0.2
  have F14_1 := A14_1.1; have G14_1 := A14_1.2
  have F15_0 := A15_0.1; have G15_0 := A15_0.2
  have F15_1 := A15_1.1; have G15_1 := A15_1.2
  have F16_0 := A16_0.1; have G16_0 := A16_0.2
  have F16_1 := A16_1.1; have G16_1 := A16_1.2
  have F17_0 := A17_0.1; have G17_0 := A17_0.2
  have F17_1 := A17_1.1; have G17_1 := A17_1.2
  have F18_0 := A18_0.1; have G18_0 := A18_0.2
  have F18_1 := A18_1.1; have G18_1 := A18_1.2
  have F19_0 := A19_0.1; have G19_0 := A19_0.2
  have F19_1 := A19_1.1; have G19_1 := A19_1.2
  have F20_0 := A20_0.1; have G20_0 := A20_0.2
  have F20_1 := A20_1.1; have G20_1 := A20_1.2
  have Z0 := A0_0.lt
  have Z1 := A1_0.lt
  have Z2 := A2_0.lt
  have Z3 := A3_0.lt
  have Z4 := A4_0.lt
  have Z5 := A5_0.lt
  have Z6 := A6_0.lt
  have Z7 := A7_0.lt
  have Z8 := A8_0.lt
  have Z9 := A9_0.lt
  have Z10 := A10_0.lt
  have Z11 := A11_0.lt
  have Z12 := A12_0.lt
  have Z13 := A13_0.lt
  have Z14 := A14_0.lt
  have Z15 := A15_0.lt
  have Z16 := A16_0.lt
  have Z17 := A17_0.lt
  have Z18 := A18_0.lt
  have Z19 := A19_0.lt
  have Z20 := A20_0.lt
  go_wp2_with fail
  go_ret
  exact ⟨rfl, B⟩

end Go.Proofs.Yteephgpefhodnaa
