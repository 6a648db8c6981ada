/- The walk of Truly. -/
import Derived.Test.YteephgpefhodnabD4
namespace Go.Proofs.Yteephgpefhodnab
open Go.RowKit Go.Sort Go.Fl
set_option linter.unusedSimpArgs false
set_option linter.unusedVariables false

set_option maxRecDepth 10000 in
set_option maxHeartbeats 4000000 in
theorem truly_n_4 (a b c d u v op o : Int) (hb1 : -9223372036854775808 ≤ op) (hb2 : op ≤ 9223372036854775807) (hneg : op < 0) (ho : (-(op + 1)).tmod 12 = o) (A Bh C D X Y A1 B1 C1 D1 S0 S1 pd qd p1 q1 sd : Int) (rA : Rg A) (rBh : Rg Bh) (rC : Rg C) (rD : Rg D) (rX : Rg X) (rY : Rg Y) (rA1 : Rg A1) (rB1 : Rg B1) (rC1 : Rg C1) (rD1 : Rg D1) (rS0 : Rg S0) (rS1 : Rg S1) (fX : Fi X) (fY : Fi Y) (fA : Fi A) (fB : Fi Bh) (hXY : X ≤ Y) (s1 : sd ≤ 4) (s2 : sd ≤ p1) (s3 : 6 ≤ o → sd ≤ q1)
    (hSX : ∀ w, Calls Try.prog 5 #[.int .u64 a, .int .u64 b] w fun e w' => e = .returned (.agg #[.float .f64 (ofKey (A)), .float .f64 (ofKey (Bh))]) ∧ Below w.heap.size w w')
    (hSZ : ∀ w, Calls Try.prog 5 #[.int .u64 c, .int .u64 d] w fun e w' => e = .returned (.agg #[.float .f64 (ofKey (C)), .float .f64 (ofKey (D))]) ∧ Below w.heap.size w w')
    (hDX : ∀ w, Calls Try.prog 6 #[.agg #[.float .f64 (ofKey (A)), .float .f64 (ofKey (Bh))], .int .i64 4] w fun e w' => e = .returned (.agg #[.float .f64 (ofKey (A)), .float .f64 (ofKey (Bh)), .int .i64 (pd)]) ∧ Below w.heap.size w w')
    (hDZ : ∀ w, Calls Try.prog 6 #[.agg #[.float .f64 (ofKey (C)), .float .f64 (ofKey (D))], .int .i64 4] w fun e w' => e = .returned (.agg #[.float .f64 (ofKey (C)), .float .f64 (ofKey (D)), .int .i64 (qd)]) ∧ Below w.heap.size w w')
    (hDO : ∀ w, Calls Try.prog 7 #[.int .i64 o, .agg #[.float .f64 (ofKey (A)), .float .f64 (ofKey (Bh)), .int .i64 (pd)], .agg #[.float .f64 (ofKey (C)), .float .f64 (ofKey (D)), .int .i64 (qd)]] w fun e w' => e = .returned (.agg #[.float .f64 (ofKey (X)), .float .f64 (ofKey (Y)), .int .i64 (4)]) ∧ Below w.heap.size w w')
    (hAP : ∀ w, Calls Try.prog 8 #[.int .i64 o, .agg #[.float .f64 (ofKey (A)), .float .f64 (ofKey (Bh))], .agg #[.float .f64 (ofKey (C)), .float .f64 (ofKey (D))]] w fun e w' => e = .returned (.agg #[.float .f64 (ofKey (X)), .float .f64 (ofKey (Y))]) ∧ Below w.heap.size w w')
    (hEX : ∀ w, Calls Try.prog 6 #[.agg #[.float .f64 (ofKey (A)), .float .f64 (ofKey (Bh))], .int .i64 u] w fun e w' => e = .returned (.agg #[.float .f64 (ofKey (A1)), .float .f64 (ofKey (B1)), .int .i64 (p1)]) ∧ Below w.heap.size w w')
    (hEZ : ∀ w, Calls Try.prog 6 #[.agg #[.float .f64 (ofKey (C)), .float .f64 (ofKey (D))], .int .i64 v] w fun e w' => e = .returned (.agg #[.float .f64 (ofKey (C1)), .float .f64 (ofKey (D1)), .int .i64 (q1)]) ∧ Below w.heap.size w w')
    (hDS : ∀ w, Calls Try.prog 7 #[.int .i64 o, .agg #[.float .f64 (ofKey (A1)), .float .f64 (ofKey (B1)), .int .i64 (p1)], .agg #[.float .f64 (ofKey (C1)), .float .f64 (ofKey (D1)), .int .i64 (q1)]] w fun e w' => e = .returned (.agg #[.float .f64 (ofKey (S0)), .float .f64 (ofKey (S1)), .int .i64 (sd)]) ∧ Below w.heap.size w w') (w : World) :
    Calls Try.prog 3 #[.int .u64 a, .int .u64 b, .int .u64 c, .int .u64 d, .int .i64 u, .int .i64 v, .int .i64 op] w fun e w' => e = .returned (.bool true) ∧ Below w.heap.size w w' := by
  have AL := Lib.hid alive_any
  have he := eqiv
  have SX := Lib.hid hSX
  have SZ := Lib.hid hSZ
  have DX := Lib.hid hDX
  have DZ := Lib.hid hDZ
  have DO := Lib.hid hDO
  have AP := Lib.hid hAP
  have EX := Lib.hid hEX
  have EZ := Lib.hid hEZ
  have DS := Lib.hid hDS
  clear hSX hSZ hDX hDZ hDO hAP hEX hEZ hDS
  obtain ⟨zX, mX, kX, jX, iX⟩ := run_sub_self (P := Try.prog) (ofKey X) (fin_ofKey fX.1 fX.2)
  obtain ⟨zY, mY, kY, jY, iY⟩ := run_sub_self (P := Try.prog) (ofKey Y) (fin_ofKey fY.1 fY.2)
  obtain ⟨zA, mA, kA, jA, iA⟩ := run_sub_self (P := Try.prog) (ofKey A) (fin_ofKey fA.1 fA.2)
  obtain ⟨zB, mB, kB, jB, iB⟩ := run_sub_self (P := Try.prog) (ofKey Bh) (fin_ofKey fB.1 fB.2)
  go_enter Try.func3, Try.ntmps3
  go_wp2_with fail
  refine (AL.out _).mono ?_
  rintro e w1 ⟨rfl, hbw1⟩
  have B := hbw1
  clear hbw1
  go_wp2_with fail
  refine (SX.out _).mono ?_
  rintro e w2 ⟨rfl, hbw2⟩
  replace B := below_step B B.size (hbw2)
  clear hbw2
  go_wp2_with fail
  refine (SZ.out _).mono ?_
  rintro e w3 ⟨rfl, hbw3⟩
  have nB : w.heap.size ≤ w2.heap.size := B.size
  have A0_0 : At (World.alloc w2 (.cells #[.float .f64 (ofKey (A)), .float .f64 (ofKey (Bh))] 27)) (w2.heap.size) 0 (.float .f64 (ofKey (A))) := ⟨by simp [go_sem], by simp [go_sem]⟩
  replace A0_0 := At.below A0_0 hbw3
  have A0_1 : At (World.alloc w2 (.cells #[.float .f64 (ofKey (A)), .float .f64 (ofKey (Bh))] 27)) (w2.heap.size) 1 (.float .f64 (ofKey (Bh))) := ⟨by simp [go_sem], by simp [go_sem]⟩
  replace A0_1 := At.below A0_1 hbw3
  replace B := below_step B B.size (below_alloc (hbw3))
  clear hbw3
  have F0_0 := A0_0.1; have G0_0 := A0_0.2
  have F0_1 := A0_1.1; have G0_1 := A0_1.2
  have Z0 := A0_0.lt
  go_wp2_with fail
  refine (DX.out _).mono ?_
  rintro e w4 ⟨rfl, hbw4⟩
  clear F0_0 G0_0 F0_1 G0_1 Z0
  have n1 : w2.heap.size < w3.heap.size := At.lt A0_1
  replace A0_0 := At.below (At.alloc (A0_0)) hbw4
  replace A0_1 := At.below (At.alloc (A0_1)) hbw4
  have A1_0 : At (World.alloc w3 (.cells #[.float .f64 (ofKey (C)), .float .f64 (ofKey (D))] 27)) (w3.heap.size) 0 (.float .f64 (ofKey (C))) := ⟨by simp [go_sem], by simp [go_sem]⟩
  replace A1_0 := At.below A1_0 hbw4
  have A1_1 : At (World.alloc w3 (.cells #[.float .f64 (ofKey (C)), .float .f64 (ofKey (D))] 27)) (w3.heap.size) 1 (.float .f64 (ofKey (D))) := ⟨by simp [go_sem], by simp [go_sem]⟩
  replace A1_1 := At.below A1_1 hbw4
  replace B := below_step B B.size (below_alloc (hbw4))
  clear hbw4
  have F0_0 := A0_0.1; have G0_0 := A0_0.2
  have F0_1 := A0_1.1; have G0_1 := A0_1.2
  have F1_0 := A1_0.1; have G1_0 := A1_0.2
  have F1_1 := A1_1.1; have G1_1 := A1_1.2
  have Z0 := A0_0.lt
  have Z1 := A1_0.lt
  go_wp2_with fail
  refine (DZ.out _).mono ?_
  rintro e w5 ⟨rfl, hbw5⟩
  clear F0_0 G0_0 F0_1 G0_1 F1_0 G1_0 F1_1 G1_1 Z0 Z1
  have n2 : w3.heap.size < w4.heap.size := At.lt A1_1
  replace A0_0 := At.below (At.alloc (A0_0)) hbw5
  replace A0_1 := At.below (At.alloc (A0_1)) hbw5
  replace A1_0 := At.below (At.alloc (A1_0)) hbw5
  replace A1_1 := At.below (At.alloc (A1_1)) hbw5
  have A2_0 : At (World.alloc w4 (.cells #[.float .f64 (ofKey (A)), .float .f64 (ofKey (Bh)), .int .i64 (pd)] 31)) (w4.heap.size) 0 (.float .f64 (ofKey (A))) := ⟨by simp [go_sem], by simp [go_sem]⟩
  replace A2_0 := At.below A2_0 hbw5
  have A2_1 : At (World.alloc w4 (.cells #[.float .f64 (ofKey (A)), .float .f64 (ofKey (Bh)), .int .i64 (pd)] 31)) (w4.heap.size) 1 (.float .f64 (ofKey (Bh))) := ⟨by simp [go_sem], by simp [go_sem]⟩
  replace A2_1 := At.below A2_1 hbw5
  have A2_2 : At (World.alloc w4 (.cells #[.float .f64 (ofKey (A)), .float .f64 (ofKey (Bh)), .int .i64 (pd)] 31)) (w4.heap.size) 2 (.int .i64 (pd)) := ⟨by simp [go_sem], by simp [go_sem]⟩
  replace A2_2 := At.below A2_2 hbw5
  replace B := below_step B B.size (below_alloc (hbw5))
  clear hbw5
  have F0_0 := A0_0.1; have G0_0 := A0_0.2
  have F0_1 := A0_1.1; have G0_1 := A0_1.2
  have F1_0 := A1_0.1; have G1_0 := A1_0.2
  have F1_1 := A1_1.1; have G1_1 := A1_1.2
  have F2_0 := A2_0.1; have G2_0 := A2_0.2
  have F2_1 := A2_1.1; have G2_1 := A2_1.2
  have F2_2 := A2_2.1; have G2_2 := A2_2.2
  have Z0 := A0_0.lt
  have Z1 := A1_0.lt
  have Z2 := A2_0.lt
  go_wp2_with fail
  refine (DO.out _).mono ?_
  rintro e w6 ⟨rfl, hbw6⟩
  clear F0_0 G0_0 F0_1 G0_1 F1_0 G1_0 F1_1 G1_1 F2_0 G2_0 F2_1 G2_1 F2_2 G2_2 Z0 Z1 Z2
  have n3 : w4.heap.size < w5.heap.size := At.lt A2_2
  replace A0_0 := At.below (At.alloc (A0_0)) hbw6
  replace A0_1 := At.below (At.alloc (A0_1)) hbw6
  replace A1_0 := At.below (At.alloc (A1_0)) hbw6
  replace A1_1 := At.below (At.alloc (A1_1)) hbw6
  replace A2_0 := At.below (At.alloc (A2_0)) hbw6
  replace A2_1 := At.below (At.alloc (A2_1)) hbw6
  replace A2_2 := At.below (At.alloc (A2_2)) hbw6
  have A3_0 : At (World.alloc w5 (.cells #[.float .f64 (ofKey (C)), .float .f64 (ofKey (D)), .int .i64 (qd)] 31)) (w5.heap.size) 0 (.float .f64 (ofKey (C))) := ⟨by simp [go_sem], by simp [go_sem]⟩
  replace A3_0 := At.below A3_0 hbw6
  have A3_1 : At (World.alloc w5 (.cells #[.float .f64 (ofKey (C)), .float .f64 (ofKey (D)), .int .i64 (qd)] 31)) (w5.heap.size) 1 (.float .f64 (ofKey (D))) := ⟨by simp [go_sem], by simp [go_sem]⟩
  replace A3_1 := At.below A3_1 hbw6
  have A3_2 : At (World.alloc w5 (.cells #[.float .f64 (ofKey (C)), .float .f64 (ofKey (D)), .int .i64 (qd)] 31)) (w5.heap.size) 2 (.int .i64 (qd)) := ⟨by simp [go_sem], by simp [go_sem]⟩
  replace A3_2 := At.below A3_2 hbw6
  replace B := below_step B B.size (below_alloc (hbw6))
  clear hbw6
  have F0_0 := A0_0.1; have G0_0 := A0_0.2
  have F0_1 := A0_1.1; have G0_1 := A0_1.2
  have F1_0 := A1_0.1; have G1_0 := A1_0.2
  have F1_1 := A1_1.1; have G1_1 := A1_1.2
  have F2_0 := A2_0.1; have G2_0 := A2_0.2
  have F2_1 := A2_1.1; have G2_1 := A2_1.2
  have F2_2 := A2_2.1; have G2_2 := A2_2.2
  have F3_0 := A3_0.1; have G3_0 := A3_0.2
  have F3_1 := A3_1.1; have G3_1 := A3_1.2
  have F3_2 := A3_2.1; have G3_2 := A3_2.2
  have Z0 := A0_0.lt
  have Z1 := A1_0.lt
  have Z2 := A2_0.lt
  have Z3 := A3_0.lt
  go_wp2_with fail
  refine (AP.out _).mono ?_
  rintro e w7 ⟨rfl, hbw7⟩
  clear F0_0 G0_0 F0_1 G0_1 F1_0 G1_0 F1_1 G1_1 F2_0 G2_0 F2_1 G2_1 F2_2 G2_2 F3_0 G3_0 F3_1 G3_1 F3_2 G3_2 Z0 Z1 Z2 Z3
  have n4 : w5.heap.size < w6.heap.size := At.lt A3_2
  replace A0_0 := At.below (At.alloc (A0_0)) hbw7
  replace A0_1 := At.below (At.alloc (A0_1)) hbw7
  replace A1_0 := At.below (At.alloc (A1_0)) hbw7
  replace A1_1 := At.below (At.alloc (A1_1)) hbw7
  replace A2_0 := At.below (At.alloc (A2_0)) hbw7
  replace A2_1 := At.below (At.alloc (A2_1)) hbw7
  replace A2_2 := At.below (At.alloc (A2_2)) hbw7
  replace A3_0 := At.below (At.alloc (A3_0)) hbw7
  replace A3_1 := At.below (At.alloc (A3_1)) hbw7
  replace A3_2 := At.below (At.alloc (A3_2)) hbw7
  have A4_0 : At (World.alloc w6 (.cells #[.float .f64 (ofKey (X)), .float .f64 (ofKey (Y)), .int .i64 (4)] 31)) (w6.heap.size) 0 (.float .f64 (ofKey (X))) := ⟨by simp [go_sem], by simp [go_sem]⟩
  replace A4_0 := At.below A4_0 hbw7
  have A4_1 : At (World.alloc w6 (.cells #[.float .f64 (ofKey (X)), .float .f64 (ofKey (Y)), .int .i64 (4)] 31)) (w6.heap.size) 1 (.float .f64 (ofKey (Y))) := ⟨by simp [go_sem], by simp [go_sem]⟩
  replace A4_1 := At.below A4_1 hbw7
  have A4_2 : At (World.alloc w6 (.cells #[.float .f64 (ofKey (X)), .float .f64 (ofKey (Y)), .int .i64 (4)] 31)) (w6.heap.size) 2 (.int .i64 (4)) := ⟨by simp [go_sem], by simp [go_sem]⟩
  replace A4_2 := At.below A4_2 hbw7
  replace B := below_step B B.size (below_alloc (hbw7))
  clear hbw7
  have F0_0 := A0_0.1; have G0_0 := A0_0.2
  have F0_1 := A0_1.1; have G0_1 := A0_1.2
  have F1_0 := A1_0.1; have G1_0 := A1_0.2
  have F1_1 := A1_1.1; have G1_1 := A1_1.2
  have F2_0 := A2_0.1; have G2_0 := A2_0.2
  have F2_1 := A2_1.1; have G2_1 := A2_1.2
  have F2_2 := A2_2.1; have G2_2 := A2_2.2
  have F3_0 := A3_0.1; have G3_0 := A3_0.2
  have F3_1 := A3_1.1; have G3_1 := A3_1.2
  have F3_2 := A3_2.1; have G3_2 := A3_2.2
  have F4_0 := A4_0.1; have G4_0 := A4_0.2
  have F4_1 := A4_1.1; have G4_1 := A4_1.2
  have F4_2 := A4_2.1; have G4_2 := A4_2.2
  have Z0 := A0_0.lt
  have Z1 := A1_0.lt
  have Z2 := A2_0.lt
  have Z3 := A3_0.lt
  have Z4 := A4_0.lt
  clear AL SX SZ DX DZ DO AP
  go_wp2_with fail
  refine (EX.out _).mono ?_
  rintro e w8 ⟨rfl, hbw8⟩
  clear F0_0 G0_0 F0_1 G0_1 F1_0 G1_0 F1_1 G1_1 F2_0 G2_0 F2_1 G2_1 F2_2 G2_2 F3_0 G3_0 F3_1 G3_1 F3_2 G3_2 F4_0 G4_0 F4_1 G4_1 F4_2 G4_2 Z0 Z1 Z2 Z3 Z4
  have n5 : w6.heap.size < w7.heap.size := At.lt A4_2
  replace A0_0 := At.below (At.alloc (A0_0)) hbw8
  replace A0_1 := At.below (At.alloc (A0_1)) hbw8
  replace A1_0 := At.below (At.alloc (A1_0)) hbw8
  replace A1_1 := At.below (At.alloc (A1_1)) hbw8
  replace A2_0 := At.below (At.alloc (A2_0)) hbw8
  replace A2_1 := At.below (At.alloc (A2_1)) hbw8
  replace A2_2 := At.below (At.alloc (A2_2)) hbw8
  replace A3_0 := At.below (At.alloc (A3_0)) hbw8
  replace A3_1 := At.below (At.alloc (A3_1)) hbw8
  replace A3_2 := At.below (At.alloc (A3_2)) hbw8
  replace A4_0 := At.below (At.alloc (A4_0)) hbw8
  replace A4_1 := At.below (At.alloc (A4_1)) hbw8
  replace A4_2 := At.below (At.alloc (A4_2)) hbw8
  have A5_0 : At (World.alloc w7 (.cells #[.float .f64 (ofKey (X)), .float .f64 (ofKey (Y))] 27)) (w7.heap.size) 0 (.float .f64 (ofKey (X))) := ⟨by simp [go_sem], by simp [go_sem]⟩
  replace A5_0 := At.below A5_0 hbw8
  have A5_1 : At (World.alloc w7 (.cells #[.float .f64 (ofKey (X)), .float .f64 (ofKey (Y))] 27)) (w7.heap.size) 1 (.float .f64 (ofKey (Y))) := ⟨by simp [go_sem], by simp [go_sem]⟩
  replace A5_1 := At.below A5_1 hbw8
  replace B := below_step B B.size (below_alloc (hbw8))
  clear hbw8
  have F0_0 := A0_0.1; have G0_0 := A0_0.2
  have F0_1 := A0_1.1; have G0_1 := A0_1.2
  have F1_0 := A1_0.1; have G1_0 := A1_0.2
  have F1_1 := A1_1.1; have G1_1 := A1_1.2
  have F2_0 := A2_0.1; have G2_0 := A2_0.2
  have F2_1 := A2_1.1; have G2_1 := A2_1.2
  have F2_2 := A2_2.1; have G2_2 := A2_2.2
  have F3_0 := A3_0.1; have G3_0 := A3_0.2
  have F3_1 := A3_1.1; have G3_1 := A3_1.2
  have F3_2 := A3_2.1; have G3_2 := A3_2.2
  have F4_0 := A4_0.1; have G4_0 := A4_0.2
  have F4_1 := A4_1.1; have G4_1 := A4_1.2
  have F4_2 := A4_2.1; have G4_2 := A4_2.2
  have F5_0 := A5_0.1; have G5_0 := A5_0.2
  have F5_1 := A5_1.1; have G5_1 := A5_1.2
  have Z0 := A0_0.lt
  have Z1 := A1_0.lt
  have Z2 := A2_0.lt
  have Z3 := A3_0.lt
  have Z4 := A4_0.lt
  have Z5 := A5_0.lt
  dsimp only
  iterate 4 go_step
  clear F0_0 G0_0 F0_1 G0_1 F1_0 G1_0 F1_1 G1_1 F2_0 G2_0 F2_1 G2_1 F2_2 G2_2 F3_0 G3_0 F3_1 G3_1 F3_2 G3_2 F4_0 G4_0 F4_1 G4_1 F4_2 G4_2 F5_0 G5_0 F5_1 G5_1 Z0 Z1 Z2 Z3 Z4 Z5
  replace A0_0 := At.set_blk (b' := w4.heap.size) (f' := 0) A0_0 (by omega) (.float .f64 (ofKey (A1)))
  replace A0_1 := At.set_blk (b' := w4.heap.size) (f' := 0) A0_1 (by omega) (.float .f64 (ofKey (A1)))
  replace A1_0 := At.set_blk (b' := w4.heap.size) (f' := 0) A1_0 (by omega) (.float .f64 (ofKey (A1)))
  replace A1_1 := At.set_blk (b' := w4.heap.size) (f' := 0) A1_1 (by omega) (.float .f64 (ofKey (A1)))
  replace A2_0 := At.set_same A2_0 (.float .f64 (ofKey (A1)))
  replace A2_1 := At.set_off (f' := 0) A2_1 (by decide) (.float .f64 (ofKey (A1)))
  replace A2_2 := At.set_off (f' := 0) A2_2 (by decide) (.float .f64 (ofKey (A1)))
  replace A3_0 := At.set_blk (b' := w4.heap.size) (f' := 0) A3_0 (by omega) (.float .f64 (ofKey (A1)))
  replace A3_1 := At.set_blk (b' := w4.heap.size) (f' := 0) A3_1 (by omega) (.float .f64 (ofKey (A1)))
  replace A3_2 := At.set_blk (b' := w4.heap.size) (f' := 0) A3_2 (by omega) (.float .f64 (ofKey (A1)))
  replace A4_0 := At.set_blk (b' := w4.heap.size) (f' := 0) A4_0 (by omega) (.float .f64 (ofKey (A1)))
  replace A4_1 := At.set_blk (b' := w4.heap.size) (f' := 0) A4_1 (by omega) (.float .f64 (ofKey (A1)))
  replace A4_2 := At.set_blk (b' := w4.heap.size) (f' := 0) A4_2 (by omega) (.float .f64 (ofKey (A1)))
  replace A5_0 := At.set_blk (b' := w4.heap.size) (f' := 0) A5_0 (by omega) (.float .f64 (ofKey (A1)))
  replace A5_1 := At.set_blk (b' := w4.heap.size) (f' := 0) A5_1 (by omega) (.float .f64 (ofKey (A1)))
  replace A0_0 := At.set_blk (b' := w4.heap.size) (f' := 1) A0_0 (by omega) (.float .f64 (ofKey (B1)))
  replace A0_1 := At.set_blk (b' := w4.heap.size) (f' := 1) A0_1 (by omega) (.float .f64 (ofKey (B1)))
  replace A1_0 := At.set_blk (b' := w4.heap.size) (f' := 1) A1_0 (by omega) (.float .f64 (ofKey (B1)))
  replace A1_1 := At.set_blk (b' := w4.heap.size) (f' := 1) A1_1 (by omega) (.float .f64 (ofKey (B1)))
  replace A2_0 := At.set_off (f' := 1) A2_0 (by decide) (.float .f64 (ofKey (B1)))
  replace A2_1 := At.set_same A2_1 (.float .f64 (ofKey (B1)))
  replace A2_2 := At.set_off (f' := 1) A2_2 (by decide) (.float .f64 (ofKey (B1)))
  replace A3_0 := At.set_blk (b' := w4.heap.size) (f' := 1) A3_0 (by omega) (.float .f64 (ofKey (B1)))
  replace A3_1 := At.set_blk (b' := w4.heap.size) (f' := 1) A3_1 (by omega) (.float .f64 (ofKey (B1)))
  replace A3_2 := At.set_blk (b' := w4.heap.size) (f' := 1) A3_2 (by omega) (.float .f64 (ofKey (B1)))
  replace A4_0 := At.set_blk (b' := w4.heap.size) (f' := 1) A4_0 (by omega) (.float .f64 (ofKey (B1)))
  replace A4_1 := At.set_blk (b' := w4.heap.size) (f' := 1) A4_1 (by omega) (.float .f64 (ofKey (B1)))
  replace A4_2 := At.set_blk (b' := w4.heap.size) (f' := 1) A4_2 (by omega) (.float .f64 (ofKey (B1)))
  replace A5_0 := At.set_blk (b' := w4.heap.size) (f' := 1) A5_0 (by omega) (.float .f64 (ofKey (B1)))
  replace A5_1 := At.set_blk (b' := w4.heap.size) (f' := 1) A5_1 (by omega) (.float .f64 (ofKey (B1)))
  replace A0_0 := At.set_blk (b' := w4.heap.size) (f' := 2) A0_0 (by omega) (.int .i64 (p1))
  replace A0_1 := At.set_blk (b' := w4.heap.size) (f' := 2) A0_1 (by omega) (.int .i64 (p1))
  replace A1_0 := At.set_blk (b' := w4.heap.size) (f' := 2) A1_0 (by omega) (.int .i64 (p1))
  replace A1_1 := At.set_blk (b' := w4.heap.size) (f' := 2) A1_1 (by omega) (.int .i64 (p1))
  replace A2_0 := At.set_off (f' := 2) A2_0 (by decide) (.int .i64 (p1))
  replace A2_1 := At.set_off (f' := 2) A2_1 (by decide) (.int .i64 (p1))
  replace A2_2 := At.set_same A2_2 (.int .i64 (p1))
  replace A3_0 := At.set_blk (b' := w4.heap.size) (f' := 2) A3_0 (by omega) (.int .i64 (p1))
  replace A3_1 := At.set_blk (b' := w4.heap.size) (f' := 2) A3_1 (by omega) (.int .i64 (p1))
  replace A3_2 := At.set_blk (b' := w4.heap.size) (f' := 2) A3_2 (by omega) (.int .i64 (p1))
  replace A4_0 := At.set_blk (b' := w4.heap.size) (f' := 2) A4_0 (by omega) (.int .i64 (p1))
  replace A4_1 := At.set_blk (b' := w4.heap.size) (f' := 2) A4_1 (by omega) (.int .i64 (p1))
  replace A4_2 := At.set_blk (b' := w4.heap.size) (f' := 2) A4_2 (by omega) (.int .i64 (p1))
  replace A5_0 := At.set_blk (b' := w4.heap.size) (f' := 2) A5_0 (by omega) (.int .i64 (p1))
  replace A5_1 := At.set_blk (b' := w4.heap.size) (f' := 2) A5_1 (by omega) (.int .i64 (p1))
  have B' : Below w.heap.size w (World.setCell (World.setCell (World.setCell w8 ⟨w4.heap.size, 0, none⟩ (.float .f64 (ofKey (A1)))) ⟨w4.heap.size, 1, none⟩ (.float .f64 (ofKey (B1)))) ⟨w4.heap.size, 2, none⟩ (.int .i64 (p1))) := (Below.setCell (Below.setCell (Below.setCell B (p := ⟨w4.heap.size, 0, none⟩) (by first | (show w.heap.size ≤ w4.heap.size; omega) | (have := B.size; show w.heap.size ≤ w4.heap.size; omega)) (.float .f64 (ofKey (A1)))) (p := ⟨w4.heap.size, 1, none⟩) (by first | (show w.heap.size ≤ w4.heap.size; omega) | (have := B.size; show w.heap.size ≤ w4.heap.size; omega)) (.float .f64 (ofKey (B1)))) (p := ⟨w4.heap.size, 2, none⟩) (by first | (show w.heap.size ≤ w4.heap.size; omega) | (have := B.size; show w.heap.size ≤ w4.heap.size; omega)) (.int .i64 (p1)))
  clear B
  obtain ⟨w9, hw9⟩ : ∃ w9, w9 = (World.setCell (World.setCell (World.setCell w8 ⟨w4.heap.size, 0, none⟩ (.float .f64 (ofKey (A1)))) ⟨w4.heap.size, 1, none⟩ (.float .f64 (ofKey (B1)))) ⟨w4.heap.size, 2, none⟩ (.int .i64 (p1))) := ⟨_, rfl⟩
  rw [← hw9]
  replace A0_0 := At.of A0_0 hw9
  replace A0_1 := At.of A0_1 hw9
  replace A1_0 := At.of A1_0 hw9
  replace A1_1 := At.of A1_1 hw9
  replace A2_0 := At.of A2_0 hw9
  replace A2_1 := At.of A2_1 hw9
  replace A2_2 := At.of A2_2 hw9
  replace A3_0 := At.of A3_0 hw9
  replace A3_1 := At.of A3_1 hw9
  replace A3_2 := At.of A3_2 hw9
  replace A4_0 := At.of A4_0 hw9
  replace A4_1 := At.of A4_1 hw9
  replace A4_2 := At.of A4_2 hw9
  replace A5_0 := At.of A5_0 hw9
  replace A5_1 := At.of A5_1 hw9
  have B := below_of B' hw9
  clear B' hw9
  have F0_0 := A0_0.1; have G0_0 := A0_0.2
  have F0_1 := A0_1.1; have G0_1 := A0_1.2
  have F1_0 := A1_0.1; have G1_0 := A1_0.2
  have F1_1 := A1_1.1; have G1_1 := A1_1.2
  have F2_0 := A2_0.1; have G2_0 := A2_0.2
  have F2_1 := A2_1.1; have G2_1 := A2_1.2
  have F2_2 := A2_2.1; have G2_2 := A2_2.2
  have F3_0 := A3_0.1; have G3_0 := A3_0.2
  have F3_1 := A3_1.1; have G3_1 := A3_1.2
  have F3_2 := A3_2.1; have G3_2 := A3_2.2
  have F4_0 := A4_0.1; have G4_0 := A4_0.2
  have F4_1 := A4_1.1; have G4_1 := A4_1.2
  have F4_2 := A4_2.1; have G4_2 := A4_2.2
  have F5_0 := A5_0.1; have G5_0 := A5_0.2
  have F5_1 := A5_1.1; have G5_1 := A5_1.2
  have Z0 := A0_0.lt
  have Z1 := A1_0.lt
  have Z2 := A2_0.lt
  have Z3 := A3_0.lt
  have Z4 := A4_0.lt
  have Z5 := A5_0.lt
  go_wp2_with fail
  refine (EZ.out _).mono ?_
  rintro e w10 ⟨rfl, hbw10⟩
  clear F0_0 G0_0 F0_1 G0_1 F1_0 G1_0 F1_1 G1_1 F2_0 G2_0 F2_1 G2_1 F2_2 G2_2 F3_0 G3_0 F3_1 G3_1 F3_2 G3_2 F4_0 G4_0 F4_1 G4_1 F4_2 G4_2 F5_0 G5_0 F5_1 G5_1 Z0 Z1 Z2 Z3 Z4 Z5
  replace A0_0 := At.below (A0_0) hbw10
  replace A0_1 := At.below (A0_1) hbw10
  replace A1_0 := At.below (A1_0) hbw10
  replace A1_1 := At.below (A1_1) hbw10
  replace A2_0 := At.below (A2_0) hbw10
  replace A2_1 := At.below (A2_1) hbw10
  replace A2_2 := At.below (A2_2) hbw10
  replace A3_0 := At.below (A3_0) hbw10
  replace A3_1 := At.below (A3_1) hbw10
  replace A3_2 := At.below (A3_2) hbw10
  replace A4_0 := At.below (A4_0) hbw10
  replace A4_1 := At.below (A4_1) hbw10
  replace A4_2 := At.below (A4_2) hbw10
  replace A5_0 := At.below (A5_0) hbw10
  replace A5_1 := At.below (A5_1) hbw10
  replace B := below_step B B.size (hbw10)
  clear hbw10
  have F0_0 := A0_0.1; have G0_0 := A0_0.2
  have F0_1 := A0_1.1; have G0_1 := A0_1.2
  have F1_0 := A1_0.1; have G1_0 := A1_0.2
  have F1_1 := A1_1.1; have G1_1 := A1_1.2
  have F2_0 := A2_0.1; have G2_0 := A2_0.2
  have F2_1 := A2_1.1; have G2_1 := A2_1.2
  have F2_2 := A2_2.1; have G2_2 := A2_2.2
  have F3_0 := A3_0.1; have G3_0 := A3_0.2
  have F3_1 := A3_1.1; have G3_1 := A3_1.2
  have F3_2 := A3_2.1; have G3_2 := A3_2.2
  have F4_0 := A4_0.1; have G4_0 := A4_0.2
  have F4_1 := A4_1.1; have G4_1 := A4_1.2
  have F4_2 := A4_2.1; have G4_2 := A4_2.2
  have F5_0 := A5_0.1; have G5_0 := A5_0.2
  have F5_1 := A5_1.1; have G5_1 := A5_1.2
  have Z0 := A0_0.lt
  have Z1 := A1_0.lt
  have Z2 := A2_0.lt
  have Z3 := A3_0.lt
  have Z4 := A4_0.lt
  have Z5 := A5_0.lt
  dsimp only
  iterate 4 go_step
  clear F0_0 G0_0 F0_1 G0_1 F1_0 G1_0 F1_1 G1_1 F2_0 G2_0 F2_1 G2_1 F2_2 G2_2 F3_0 G3_0 F3_1 G3_1 F3_2 G3_2 F4_0 G4_0 F4_1 G4_1 F4_2 G4_2 F5_0 G5_0 F5_1 G5_1 Z0 Z1 Z2 Z3 Z4 Z5
  replace A0_0 := At.set_blk (b' := w5.heap.size) (f' := 0) A0_0 (by omega) (.float .f64 (ofKey (C1)))
  replace A0_1 := At.set_blk (b' := w5.heap.size) (f' := 0) A0_1 (by omega) (.float .f64 (ofKey (C1)))
  replace A1_0 := At.set_blk (b' := w5.heap.size) (f' := 0) A1_0 (by omega) (.float .f64 (ofKey (C1)))
  replace A1_1 := At.set_blk (b' := w5.heap.size) (f' := 0) A1_1 (by omega) (.float .f64 (ofKey (C1)))
  replace A2_0 := At.set_blk (b' := w5.heap.size) (f' := 0) A2_0 (by omega) (.float .f64 (ofKey (C1)))
  replace A2_1 := At.set_blk (b' := w5.heap.size) (f' := 0) A2_1 (by omega) (.float .f64 (ofKey (C1)))
  replace A2_2 := At.set_blk (b' := w5.heap.size) (f' := 0) A2_2 (by omega) (.float .f64 (ofKey (C1)))
  replace A3_0 := At.set_same A3_0 (.float .f64 (ofKey (C1)))
  replace A3_1 := At.set_off (f' := 0) A3_1 (by decide) (.float .f64 (ofKey (C1)))
  replace A3_2 := At.set_off (f' := 0) A3_2 (by decide) (.float .f64 (ofKey (C1)))
  replace A4_0 := At.set_blk (b' := w5.heap.size) (f' := 0) A4_0 (by omega) (.float .f64 (ofKey (C1)))
  replace A4_1 := At.set_blk (b' := w5.heap.size) (f' := 0) A4_1 (by omega) (.float .f64 (ofKey (C1)))
  replace A4_2 := At.set_blk (b' := w5.heap.size) (f' := 0) A4_2 (by omega) (.float .f64 (ofKey (C1)))
  replace A5_0 := At.set_blk (b' := w5.heap.size) (f' := 0) A5_0 (by omega) (.float .f64 (ofKey (C1)))
  replace A5_1 := At.set_blk (b' := w5.heap.size) (f' := 0) A5_1 (by omega) (.float .f64 (ofKey (C1)))
  replace A0_0 := At.set_blk (b' := w5.heap.size) (f' := 1) A0_0 (by omega) (.float .f64 (ofKey (D1)))
  replace A0_1 := At.set_blk (b' := w5.heap.size) (f' := 1) A0_1 (by omega) (.float .f64 (ofKey (D1)))
  replace A1_0 := At.set_blk (b' := w5.heap.size) (f' := 1) A1_0 (by omega) (.float .f64 (ofKey (D1)))
  replace A1_1 := At.set_blk (b' := w5.heap.size) (f' := 1) A1_1 (by omega) (.float .f64 (ofKey (D1)))
  replace A2_0 := At.set_blk (b' := w5.heap.size) (f' := 1) A2_0 (by omega) (.float .f64 (ofKey (D1)))
  replace A2_1 := At.set_blk (b' := w5.heap.size) (f' := 1) A2_1 (by omega) (.float .f64 (ofKey (D1)))
  replace A2_2 := At.set_blk (b' := w5.heap.size) (f' := 1) A2_2 (by omega) (.float .f64 (ofKey (D1)))
  replace A3_0 := At.set_off (f' := 1) A3_0 (by decide) (.float .f64 (ofKey (D1)))
  replace A3_1 := At.set_same A3_1 (.float .f64 (ofKey (D1)))
  replace A3_2 := At.set_off (f' := 1) A3_2 (by decide) (.float .f64 (ofKey (D1)))
  replace A4_0 := At.set_blk (b' := w5.heap.size) (f' := 1) A4_0 (by omega) (.float .f64 (ofKey (D1)))
  replace A4_1 := At.set_blk (b' := w5.heap.size) (f' := 1) A4_1 (by omega) (.float .f64 (ofKey (D1)))
  replace A4_2 := At.set_blk (b' := w5.heap.size) (f' := 1) A4_2 (by omega) (.float .f64 (ofKey (D1)))
  replace A5_0 := At.set_blk (b' := w5.heap.size) (f' := 1) A5_0 (by omega) (.float .f64 (ofKey (D1)))
  replace A5_1 := At.set_blk (b' := w5.heap.size) (f' := 1) A5_1 (by omega) (.float .f64 (ofKey (D1)))
  replace A0_0 := At.set_blk (b' := w5.heap.size) (f' := 2) A0_0 (by omega) (.int .i64 (q1))
  replace A0_1 := At.set_blk (b' := w5.heap.size) (f' := 2) A0_1 (by omega) (.int .i64 (q1))
  replace A1_0 := At.set_blk (b' := w5.heap.size) (f' := 2) A1_0 (by omega) (.int .i64 (q1))
  replace A1_1 := At.set_blk (b' := w5.heap.size) (f' := 2) A1_1 (by omega) (.int .i64 (q1))
  replace A2_0 := At.set_blk (b' := w5.heap.size) (f' := 2) A2_0 (by omega) (.int .i64 (q1))
  replace A2_1 := At.set_blk (b' := w5.heap.size) (f' := 2) A2_1 (by omega) (.int .i64 (q1))
  replace A2_2 := At.set_blk (b' := w5.heap.size) (f' := 2) A2_2 (by omega) (.int .i64 (q1))
  replace A3_0 := At.set_off (f' := 2) A3_0 (by decide) (.int .i64 (q1))
  replace A3_1 := At.set_off (f' := 2) A3_1 (by decide) (.int .i64 (q1))
  replace A3_2 := At.set_same A3_2 (.int .i64 (q1))
  replace A4_0 := At.set_blk (b' := w5.heap.size) (f' := 2) A4_0 (by omega) (.int .i64 (q1))
  replace A4_1 := At.set_blk (b' := w5.heap.size) (f' := 2) A4_1 (by omega) (.int .i64 (q1))
  replace A4_2 := At.set_blk (b' := w5.heap.size) (f' := 2) A4_2 (by omega) (.int .i64 (q1))
  replace A5_0 := At.set_blk (b' := w5.heap.size) (f' := 2) A5_0 (by omega) (.int .i64 (q1))
  replace A5_1 := At.set_blk (b' := w5.heap.size) (f' := 2) A5_1 (by omega) (.int .i64 (q1))
  have B' : Below w.heap.size w (World.setCell (World.setCell (World.setCell w10 ⟨w5.heap.size, 0, none⟩ (.float .f64 (ofKey (C1)))) ⟨w5.heap.size, 1, none⟩ (.float .f64 (ofKey (D1)))) ⟨w5.heap.size, 2, none⟩ (.int .i64 (q1))) := (Below.setCell (Below.setCell (Below.setCell B (p := ⟨w5.heap.size, 0, none⟩) (by first | (show w.heap.size ≤ w5.heap.size; omega) | (have := B.size; show w.heap.size ≤ w5.heap.size; omega)) (.float .f64 (ofKey (C1)))) (p := ⟨w5.heap.size, 1, none⟩) (by first | (show w.heap.size ≤ w5.heap.size; omega) | (have := B.size; show w.heap.size ≤ w5.heap.size; omega)) (.float .f64 (ofKey (D1)))) (p := ⟨w5.heap.size, 2, none⟩) (by first | (show w.heap.size ≤ w5.heap.size; omega) | (have := B.size; show w.heap.size ≤ w5.heap.size; omega)) (.int .i64 (q1)))
  clear B
  obtain ⟨w11, hw11⟩ : ∃ w11, w11 = (World.setCell (World.setCell (World.setCell w10 ⟨w5.heap.size, 0, none⟩ (.float .f64 (ofKey (C1)))) ⟨w5.heap.size, 1, none⟩ (.float .f64 (ofKey (D1)))) ⟨w5.heap.size, 2, none⟩ (.int .i64 (q1))) := ⟨_, rfl⟩
  rw [← hw11]
  replace A0_0 := At.of A0_0 hw11
  replace A0_1 := At.of A0_1 hw11
  replace A1_0 := At.of A1_0 hw11
  replace A1_1 := At.of A1_1 hw11
  replace A2_0 := At.of A2_0 hw11
  replace A2_1 := At.of A2_1 hw11
  replace A2_2 := At.of A2_2 hw11
  replace A3_0 := At.of A3_0 hw11
  replace A3_1 := At.of A3_1 hw11
  replace A3_2 := At.of A3_2 hw11
  replace A4_0 := At.of A4_0 hw11
  replace A4_1 := At.of A4_1 hw11
  replace A4_2 := At.of A4_2 hw11
  replace A5_0 := At.of A5_0 hw11
  replace A5_1 := At.of A5_1 hw11
  have B := below_of B' hw11
  clear B' hw11
  have F0_0 := A0_0.1; have G0_0 := A0_0.2
  have F0_1 := A0_1.1; have G0_1 := A0_1.2
  have F1_0 := A1_0.1; have G1_0 := A1_0.2
  have F1_1 := A1_1.1; have G1_1 := A1_1.2
  have F2_0 := A2_0.1; have G2_0 := A2_0.2
  have F2_1 := A2_1.1; have G2_1 := A2_1.2
  have F2_2 := A2_2.1; have G2_2 := A2_2.2
  have F3_0 := A3_0.1; have G3_0 := A3_0.2
  have F3_1 := A3_1.1; have G3_1 := A3_1.2
  have F3_2 := A3_2.1; have G3_2 := A3_2.2
  have F4_0 := A4_0.1; have G4_0 := A4_0.2
  have F4_1 := A4_1.1; have G4_1 := A4_1.2
  have F4_2 := A4_2.1; have G4_2 := A4_2.2
  have F5_0 := A5_0.1; have G5_0 := A5_0.2
  have F5_1 := A5_1.1; have G5_1 := A5_1.2
  have Z0 := A0_0.lt
  have Z1 := A1_0.lt
  have Z2 := A2_0.lt
  have Z3 := A3_0.lt
  have Z4 := A4_0.lt
  have Z5 := A5_0.lt
  go_wp2_with fail
  refine (DS.out _).mono ?_
  rintro e w12 ⟨rfl, hbw12⟩
  clear F0_0 G0_0 F0_1 G0_1 F1_0 G1_0 F1_1 G1_1 F2_0 G2_0 F2_1 G2_1 F2_2 G2_2 F3_0 G3_0 F3_1 G3_1 F3_2 G3_2 F4_0 G4_0 F4_1 G4_1 F4_2 G4_2 F5_0 G5_0 F5_1 G5_1 Z0 Z1 Z2 Z3 Z4 Z5
  replace A0_0 := At.below (A0_0) hbw12
  replace A0_1 := At.below (A0_1) hbw12
  replace A1_0 := At.below (A1_0) hbw12
  replace A1_1 := At.below (A1_1) hbw12
  replace A2_0 := At.below (A2_0) hbw12
  replace A2_1 := At.below (A2_1) hbw12
  replace A2_2 := At.below (A2_2) hbw12
  replace A3_0 := At.below (A3_0) hbw12
  replace A3_1 := At.below (A3_1) hbw12
  replace A3_2 := At.below (A3_2) hbw12
  replace A4_0 := At.below (A4_0) hbw12
  replace A4_1 := At.below (A4_1) hbw12
  replace A4_2 := At.below (A4_2) hbw12
  replace A5_0 := At.below (A5_0) hbw12
  replace A5_1 := At.below (A5_1) hbw12
  replace B := below_step B B.size (hbw12)
  clear hbw12
  have F0_0 := A0_0.1; have G0_0 := A0_0.2
  have F0_1 := A0_1.1; have G0_1 := A0_1.2
  have F1_0 := A1_0.1; have G1_0 := A1_0.2
  have F1_1 := A1_1.1; have G1_1 := A1_1.2
  have F2_0 := A2_0.1; have G2_0 := A2_0.2
  have F2_1 := A2_1.1; have G2_1 := A2_1.2
  have F2_2 := A2_2.1; have G2_2 := A2_2.2
  have F3_0 := A3_0.1; have G3_0 := A3_0.2
  have F3_1 := A3_1.1; have G3_1 := A3_1.2
  have F3_2 := A3_2.1; have G3_2 := A3_2.2
  have F4_0 := A4_0.1; have G4_0 := A4_0.2
  have F4_1 := A4_1.1; have G4_1 := A4_1.2
  have F4_2 := A4_2.1; have G4_2 := A4_2.2
  have F5_0 := A5_0.1; have G5_0 := A5_0.2
  have F5_1 := A5_1.1; have G5_1 := A5_1.2
  have Z0 := A0_0.lt
  have Z1 := A1_0.lt
  have Z2 := A2_0.lt
  have Z3 := A3_0.lt
  have Z4 := A4_0.lt
  have Z5 := A5_0.lt
  by_cases h6 : 6 ≤ o
  · have s4 := s3 h6
    go_wp2_with fail
    go_ret
    exact ⟨rfl, Below.alloc B B.size _⟩
  · go_wp2_with fail
    go_ret
    exact ⟨rfl, Below.alloc B B.size _⟩

set_option maxRecDepth 10000 in
set_option maxHeartbeats 4000000 in
theorem truly_n_r (a b c d u v op o : Int) (hb1 : -9223372036854775808 ≤ op) (hb2 : op ≤ 9223372036854775807) (hneg : op < 0) (ho : (-(op + 1)).tmod 12 = o) (A Bh C D X Y A1 B1 C1 D1 S0 S1 pd qd rd p1 q1 sd : Int) (rA : Rg A) (rBh : Rg Bh) (rC : Rg C) (rD : Rg D) (rX : Rg X) (rY : Rg Y) (rA1 : Rg A1) (rB1 : Rg B1) (rC1 : Rg C1) (rD1 : Rg D1) (rS0 : Rg S0) (rS1 : Rg S1) (r4 : ¬ rd = 4) (r1 : 1 ≤ rd) (r2 : rd ≤ 4) (hXY : 2 ≤ rd → X ≤ Y) (s1 : sd ≤ rd) (s2 : sd ≤ p1) (s3 : 6 ≤ o → sd ≤ q1)
    (hSX : ∀ w, Calls Try.prog 5 #[.int .u64 a, .int .u64 b] w fun e w' => e = .returned (.agg #[.float .f64 (ofKey (A)), .float .f64 (ofKey (Bh))]) ∧ Below w.heap.size w w')
    (hSZ : ∀ w, Calls Try.prog 5 #[.int .u64 c, .int .u64 d] w fun e w' => e = .returned (.agg #[.float .f64 (ofKey (C)), .float .f64 (ofKey (D))]) ∧ Below w.heap.size w w')
    (hDX : ∀ w, Calls Try.prog 6 #[.agg #[.float .f64 (ofKey (A)), .float .f64 (ofKey (Bh))], .int .i64 4] w fun e w' => e = .returned (.agg #[.float .f64 (ofKey (A)), .float .f64 (ofKey (Bh)), .int .i64 (pd)]) ∧ Below w.heap.size w w')
    (hDZ : ∀ w, Calls Try.prog 6 #[.agg #[.float .f64 (ofKey (C)), .float .f64 (ofKey (D))], .int .i64 4] w fun e w' => e = .returned (.agg #[.float .f64 (ofKey (C)), .float .f64 (ofKey (D)), .int .i64 (qd)]) ∧ Below w.heap.size w w')
    (hDO : ∀ w, Calls Try.prog 7 #[.int .i64 o, .agg #[.float .f64 (ofKey (A)), .float .f64 (ofKey (Bh)), .int .i64 (pd)], .agg #[.float .f64 (ofKey (C)), .float .f64 (ofKey (D)), .int .i64 (qd)]] w fun e w' => e = .returned (.agg #[.float .f64 (ofKey (X)), .float .f64 (ofKey (Y)), .int .i64 (rd)]) ∧ Below w.heap.size w w')
    (hAP : ∀ w, Calls Try.prog 8 #[.int .i64 o, .agg #[.float .f64 (ofKey (A)), .float .f64 (ofKey (Bh))], .agg #[.float .f64 (ofKey (C)), .float .f64 (ofKey (D))]] w fun e w' => e = .returned (.agg #[.float .f64 (ofKey (X)), .float .f64 (ofKey (Y))]) ∧ Below w.heap.size w w')
    (hEX : ∀ w, Calls Try.prog 6 #[.agg #[.float .f64 (ofKey (A)), .float .f64 (ofKey (Bh))], .int .i64 u] w fun e w' => e = .returned (.agg #[.float .f64 (ofKey (A1)), .float .f64 (ofKey (B1)), .int .i64 (p1)]) ∧ Below w.heap.size w w')
    (hEZ : ∀ w, Calls Try.prog 6 #[.agg #[.float .f64 (ofKey (C)), .float .f64 (ofKey (D))], .int .i64 v] w fun e w' => e = .returned (.agg #[.float .f64 (ofKey (C1)), .float .f64 (ofKey (D1)), .int .i64 (q1)]) ∧ Below w.heap.size w w')
    (hDS : ∀ w, Calls Try.prog 7 #[.int .i64 o, .agg #[.float .f64 (ofKey (A1)), .float .f64 (ofKey (B1)), .int .i64 (p1)], .agg #[.float .f64 (ofKey (C1)), .float .f64 (ofKey (D1)), .int .i64 (q1)]] w fun e w' => e = .returned (.agg #[.float .f64 (ofKey (S0)), .float .f64 (ofKey (S1)), .int .i64 (sd)]) ∧ Below w.heap.size w w') (w : World) :
    Calls Try.prog 3 #[.int .u64 a, .int .u64 b, .int .u64 c, .int .u64 d, .int .i64 u, .int .i64 v, .int .i64 op] w fun e w' => e = .returned (.bool true) ∧ Below w.heap.size w w' := by
  have AL := Lib.hid alive_any
  have he := eqiv
  have SX := Lib.hid hSX
  have SZ := Lib.hid hSZ
  have DX := Lib.hid hDX
  have DZ := Lib.hid hDZ
  have DO := Lib.hid hDO
  have AP := Lib.hid hAP
  have EX := Lib.hid hEX
  have EZ := Lib.hid hEZ
  have DS := Lib.hid hDS
  clear hSX hSZ hDX hDZ hDO hAP hEX hEZ hDS
  have bf : (rd == 4) = false := by rw [beq_eq_false_iff_ne]; exact r4
  go_enter Try.func3, Try.ntmps3
  go_wp2_with fail
  refine (AL.out _).mono ?_
  rintro e w1 ⟨rfl, hbw1⟩
  have B := hbw1
  clear hbw1
  go_wp2_with fail
  refine (SX.out _).mono ?_
  rintro e w2 ⟨rfl, hbw2⟩
  replace B := below_step B B.size (hbw2)
  clear hbw2
  go_wp2_with fail
  refine (SZ.out _).mono ?_
  rintro e w3 ⟨rfl, hbw3⟩
  have nB : w.heap.size ≤ w2.heap.size := B.size
  have A0_0 : At (World.alloc w2 (.cells #[.float .f64 (ofKey (A)), .float .f64 (ofKey (Bh))] 27)) (w2.heap.size) 0 (.float .f64 (ofKey (A))) := ⟨by simp [go_sem], by simp [go_sem]⟩
  replace A0_0 := At.below A0_0 hbw3
  have A0_1 : At (World.alloc w2 (.cells #[.float .f64 (ofKey (A)), .float .f64 (ofKey (Bh))] 27)) (w2.heap.size) 1 (.float .f64 (ofKey (Bh))) := ⟨by simp [go_sem], by simp [go_sem]⟩
  replace A0_1 := At.below A0_1 hbw3
  replace B := below_step B B.size (below_alloc (hbw3))
  clear hbw3
  have F0_0 := A0_0.1; have G0_0 := A0_0.2
  have F0_1 := A0_1.1; have G0_1 := A0_1.2
  have Z0 := A0_0.lt
  go_wp2_with fail
  refine (DX.out _).mono ?_
  rintro e w4 ⟨rfl, hbw4⟩
  clear F0_0 G0_0 F0_1 G0_1 Z0
  have n1 : w2.heap.size < w3.heap.size := At.lt A0_1
  replace A0_0 := At.below (At.alloc (A0_0)) hbw4
  replace A0_1 := At.below (At.alloc (A0_1)) hbw4
  have A1_0 : At (World.alloc w3 (.cells #[.float .f64 (ofKey (C)), .float .f64 (ofKey (D))] 27)) (w3.heap.size) 0 (.float .f64 (ofKey (C))) := ⟨by simp [go_sem], by simp [go_sem]⟩
  replace A1_0 := At.below A1_0 hbw4
  have A1_1 : At (World.alloc w3 (.cells #[.float .f64 (ofKey (C)), .float .f64 (ofKey (D))] 27)) (w3.heap.size) 1 (.float .f64 (ofKey (D))) := ⟨by simp [go_sem], by simp [go_sem]⟩
  replace A1_1 := At.below A1_1 hbw4
  replace B := below_step B B.size (below_alloc (hbw4))
  clear hbw4
  have F0_0 := A0_0.1; have G0_0 := A0_0.2
  have F0_1 := A0_1.1; have G0_1 := A0_1.2
  have F1_0 := A1_0.1; have G1_0 := A1_0.2
  have F1_1 := A1_1.1; have G1_1 := A1_1.2
  have Z0 := A0_0.lt
  have Z1 := A1_0.lt
  go_wp2_with fail
  refine (DZ.out _).mono ?_
  rintro e w5 ⟨rfl, hbw5⟩
  clear F0_0 G0_0 F0_1 G0_1 F1_0 G1_0 F1_1 G1_1 Z0 Z1
  have n2 : w3.heap.size < w4.heap.size := At.lt A1_1
  replace A0_0 := At.below (At.alloc (A0_0)) hbw5
  replace A0_1 := At.below (At.alloc (A0_1)) hbw5
  replace A1_0 := At.below (At.alloc (A1_0)) hbw5
  replace A1_1 := At.below (At.alloc (A1_1)) hbw5
  have A2_0 : At (World.alloc w4 (.cells #[.float .f64 (ofKey (A)), .float .f64 (ofKey (Bh)), .int .i64 (pd)] 31)) (w4.heap.size) 0 (.float .f64 (ofKey (A))) := ⟨by simp [go_sem], by simp [go_sem]⟩
  replace A2_0 := At.below A2_0 hbw5
  have A2_1 : At (World.alloc w4 (.cells #[.float .f64 (ofKey (A)), .float .f64 (ofKey (Bh)), .int .i64 (pd)] 31)) (w4.heap.size) 1 (.float .f64 (ofKey (Bh))) := ⟨by simp [go_sem], by simp [go_sem]⟩
  replace A2_1 := At.below A2_1 hbw5
  have A2_2 : At (World.alloc w4 (.cells #[.float .f64 (ofKey (A)), .float .f64 (ofKey (Bh)), .int .i64 (pd)] 31)) (w4.heap.size) 2 (.int .i64 (pd)) := ⟨by simp [go_sem], by simp [go_sem]⟩
  replace A2_2 := At.below A2_2 hbw5
  replace B := below_step B B.size (below_alloc (hbw5))
  clear hbw5
  have F0_0 := A0_0.1; have G0_0 := A0_0.2
  have F0_1 := A0_1.1; have G0_1 := A0_1.2
  have F1_0 := A1_0.1; have G1_0 := A1_0.2
  have F1_1 := A1_1.1; have G1_1 := A1_1.2
  have F2_0 := A2_0.1; have G2_0 := A2_0.2
  have F2_1 := A2_1.1; have G2_1 := A2_1.2
  have F2_2 := A2_2.1; have G2_2 := A2_2.2
  have Z0 := A0_0.lt
  have Z1 := A1_0.lt
  have Z2 := A2_0.lt
  go_wp2_with fail
  refine (DO.out _).mono ?_
  rintro e w6 ⟨rfl, hbw6⟩
  clear F0_0 G0_0 F0_1 G0_1 F1_0 G1_0 F1_1 G1_1 F2_0 G2_0 F2_1 G2_1 F2_2 G2_2 Z0 Z1 Z2
  have n3 : w4.heap.size < w5.heap.size := At.lt A2_2
  replace A0_0 := At.below (At.alloc (A0_0)) hbw6
  replace A0_1 := At.below (At.alloc (A0_1)) hbw6
  replace A1_0 := At.below (At.alloc (A1_0)) hbw6
  replace A1_1 := At.below (At.alloc (A1_1)) hbw6
  replace A2_0 := At.below (At.alloc (A2_0)) hbw6
  replace A2_1 := At.below (At.alloc (A2_1)) hbw6
  replace A2_2 := At.below (At.alloc (A2_2)) hbw6
  have A3_0 : At (World.alloc w5 (.cells #[.float .f64 (ofKey (C)), .float .f64 (ofKey (D)), .int .i64 (qd)] 31)) (w5.heap.size) 0 (.float .f64 (ofKey (C))) := ⟨by simp [go_sem], by simp [go_sem]⟩
  replace A3_0 := At.below A3_0 hbw6
  have A3_1 : At (World.alloc w5 (.cells #[.float .f64 (ofKey (C)), .float .f64 (ofKey (D)), .int .i64 (qd)] 31)) (w5.heap.size) 1 (.float .f64 (ofKey (D))) := ⟨by simp [go_sem], by simp [go_sem]⟩
  replace A3_1 := At.below A3_1 hbw6
  have A3_2 : At (World.alloc w5 (.cells #[.float .f64 (ofKey (C)), .float .f64 (ofKey (D)), .int .i64 (qd)] 31)) (w5.heap.size) 2 (.int .i64 (qd)) := ⟨by simp [go_sem], by simp [go_sem]⟩
  replace A3_2 := At.below A3_2 hbw6
  replace B := below_step B B.size (below_alloc (hbw6))
  clear hbw6
  have F0_0 := A0_0.1; have G0_0 := A0_0.2
  have F0_1 := A0_1.1; have G0_1 := A0_1.2
  have F1_0 := A1_0.1; have G1_0 := A1_0.2
  have F1_1 := A1_1.1; have G1_1 := A1_1.2
  have F2_0 := A2_0.1; have G2_0 := A2_0.2
  have F2_1 := A2_1.1; have G2_1 := A2_1.2
  have F2_2 := A2_2.1; have G2_2 := A2_2.2
  have F3_0 := A3_0.1; have G3_0 := A3_0.2
  have F3_1 := A3_1.1; have G3_1 := A3_1.2
  have F3_2 := A3_2.1; have G3_2 := A3_2.2
  have Z0 := A0_0.lt
  have Z1 := A1_0.lt
  have Z2 := A2_0.lt
  have Z3 := A3_0.lt
  go_wp2_with fail
  refine (AP.out _).mono ?_
  rintro e w7 ⟨rfl, hbw7⟩
  clear F0_0 G0_0 F0_1 G0_1 F1_0 G1_0 F1_1 G1_1 F2_0 G2_0 F2_1 G2_1 F2_2 G2_2 F3_0 G3_0 F3_1 G3_1 F3_2 G3_2 Z0 Z1 Z2 Z3
  have n4 : w5.heap.size < w6.heap.size := At.lt A3_2
  replace A0_0 := At.below (At.alloc (A0_0)) hbw7
  replace A0_1 := At.below (At.alloc (A0_1)) hbw7
  replace A1_0 := At.below (At.alloc (A1_0)) hbw7
  replace A1_1 := At.below (At.alloc (A1_1)) hbw7
  replace A2_0 := At.below (At.alloc (A2_0)) hbw7
  replace A2_1 := At.below (At.alloc (A2_1)) hbw7
  replace A2_2 := At.below (At.alloc (A2_2)) hbw7
  replace A3_0 := At.below (At.alloc (A3_0)) hbw7
  replace A3_1 := At.below (At.alloc (A3_1)) hbw7
  replace A3_2 := At.below (At.alloc (A3_2)) hbw7
  have A4_0 : At (World.alloc w6 (.cells #[.float .f64 (ofKey (X)), .float .f64 (ofKey (Y)), .int .i64 (rd)] 31)) (w6.heap.size) 0 (.float .f64 (ofKey (X))) := ⟨by simp [go_sem], by simp [go_sem]⟩
  replace A4_0 := At.below A4_0 hbw7
  have A4_1 : At (World.alloc w6 (.cells #[.float .f64 (ofKey (X)), .float .f64 (ofKey (Y)), .int .i64 (rd)] 31)) (w6.heap.size) 1 (.float .f64 (ofKey (Y))) := ⟨by simp [go_sem], by simp [go_sem]⟩
  replace A4_1 := At.below A4_1 hbw7
  have A4_2 : At (World.alloc w6 (.cells #[.float .f64 (ofKey (X)), .float .f64 (ofKey (Y)), .int .i64 (rd)] 31)) (w6.heap.size) 2 (.int .i64 (rd)) := ⟨by simp [go_sem], by simp [go_sem]⟩
  replace A4_2 := At.below A4_2 hbw7
  replace B := below_step B B.size (below_alloc (hbw7))
  clear hbw7
  have F0_0 := A0_0.1; have G0_0 := A0_0.2
  have F0_1 := A0_1.1; have G0_1 := A0_1.2
  have F1_0 := A1_0.1; have G1_0 := A1_0.2
  have F1_1 := A1_1.1; have G1_1 := A1_1.2
  have F2_0 := A2_0.1; have G2_0 := A2_0.2
  have F2_1 := A2_1.1; have G2_1 := A2_1.2
  have F2_2 := A2_2.1; have G2_2 := A2_2.2
  have F3_0 := A3_0.1; have G3_0 := A3_0.2
  have F3_1 := A3_1.1; have G3_1 := A3_1.2
  have F3_2 := A3_2.1; have G3_2 := A3_2.2
  have F4_0 := A4_0.1; have G4_0 := A4_0.2
  have F4_1 := A4_1.1; have G4_1 := A4_1.2
  have F4_2 := A4_2.1; have G4_2 := A4_2.2
  have Z0 := A0_0.lt
  have Z1 := A1_0.lt
  have Z2 := A2_0.lt
  have Z3 := A3_0.lt
  have Z4 := A4_0.lt
  clear AL SX SZ DX DZ DO AP
  by_cases hr2 : 2 ≤ rd
  · have hxy := hXY hr2
    go_wp2_with fail
    refine (EX.out _).mono ?_
    rintro e w8 ⟨rfl, hbw8⟩
    clear F0_0 G0_0 F0_1 G0_1 F1_0 G1_0 F1_1 G1_1 F2_0 G2_0 F2_1 G2_1 F2_2 G2_2 F3_0 G3_0 F3_1 G3_1 F3_2 G3_2 F4_0 G4_0 F4_1 G4_1 F4_2 G4_2 Z0 Z1 Z2 Z3 Z4
    have n5 : w6.heap.size < w7.heap.size := At.lt A4_2
    replace A0_0 := At.below (At.alloc (A0_0)) hbw8
    replace A0_1 := At.below (At.alloc (A0_1)) hbw8
    replace A1_0 := At.below (At.alloc (A1_0)) hbw8
    replace A1_1 := At.below (At.alloc (A1_1)) hbw8
    replace A2_0 := At.below (At.alloc (A2_0)) hbw8
    replace A2_1 := At.below (At.alloc (A2_1)) hbw8
    replace A2_2 := At.below (At.alloc (A2_2)) hbw8
    replace A3_0 := At.below (At.alloc (A3_0)) hbw8
    replace A3_1 := At.below (At.alloc (A3_1)) hbw8
    replace A3_2 := At.below (At.alloc (A3_2)) hbw8
    replace A4_0 := At.below (At.alloc (A4_0)) hbw8
    replace A4_1 := At.below (At.alloc (A4_1)) hbw8
    replace A4_2 := At.below (At.alloc (A4_2)) hbw8
    have A5_0 : At (World.alloc w7 (.cells #[.float .f64 (ofKey (X)), .float .f64 (ofKey (Y))] 27)) (w7.heap.size) 0 (.float .f64 (ofKey (X))) := ⟨by simp [go_sem], by simp [go_sem]⟩
    replace A5_0 := At.below A5_0 hbw8
    have A5_1 : At (World.alloc w7 (.cells #[.float .f64 (ofKey (X)), .float .f64 (ofKey (Y))] 27)) (w7.heap.size) 1 (.float .f64 (ofKey (Y))) := ⟨by simp [go_sem], by simp [go_sem]⟩
    replace A5_1 := At.below A5_1 hbw8
    replace B := below_step B B.size (below_alloc (hbw8))
    clear hbw8
    have F0_0 := A0_0.1; have G0_0 := A0_0.2
    have F0_1 := A0_1.1; have G0_1 := A0_1.2
    have F1_0 := A1_0.1; have G1_0 := A1_0.2
    have F1_1 := A1_1.1; have G1_1 := A1_1.2
    have F2_0 := A2_0.1; have G2_0 := A2_0.2
    have F2_1 := A2_1.1; have G2_1 := A2_1.2
    have F2_2 := A2_2.1; have G2_2 := A2_2.2
    have F3_0 := A3_0.1; have G3_0 := A3_0.2
    have F3_1 := A3_1.1; have G3_1 := A3_1.2
    have F3_2 := A3_2.1; have G3_2 := A3_2.2
    have F4_0 := A4_0.1; have G4_0 := A4_0.2
    have F4_1 := A4_1.1; have G4_1 := A4_1.2
    have F4_2 := A4_2.1; have G4_2 := A4_2.2
    have F5_0 := A5_0.1; have G5_0 := A5_0.2
    have F5_1 := A5_1.1; have G5_1 := A5_1.2
    have Z0 := A0_0.lt
    have Z1 := A1_0.lt
    have Z2 := A2_0.lt
    have Z3 := A3_0.lt
    have Z4 := A4_0.lt
    have Z5 := A5_0.lt
    dsimp only
    iterate 4 go_step
    clear F0_0 G0_0 F0_1 G0_1 F1_0 G1_0 F1_1 G1_1 F2_0 G2_0 F2_1 G2_1 F2_2 G2_2 F3_0 G3_0 F3_1 G3_1 F3_2 G3_2 F4_0 G4_0 F4_1 G4_1 F4_2 G4_2 F5_0 G5_0 F5_1 G5_1 Z0 Z1 Z2 Z3 Z4 Z5
    replace A0_0 := At.set_blk (b' := w4.heap.size) (f' := 0) A0_0 (by omega) (.float .f64 (ofKey (A1)))
    replace A0_1 := At.set_blk (b' := w4.heap.size) (f' := 0) A0_1 (by omega) (.float .f64 (ofKey (A1)))
    replace A1_0 := At.set_blk (b' := w4.heap.size) (f' := 0) A1_0 (by omega) (.float .f64 (ofKey (A1)))
    replace A1_1 := At.set_blk (b' := w4.heap.size) (f' := 0) A1_1 (by omega) (.float .f64 (ofKey (A1)))
    replace A2_0 := At.set_same A2_0 (.float .f64 (ofKey (A1)))
    replace A2_1 := At.set_off (f' := 0) A2_1 (by decide) (.float .f64 (ofKey (A1)))
    replace A2_2 := At.set_off (f' := 0) A2_2 (by decide) (.float .f64 (ofKey (A1)))
    replace A3_0 := At.set_blk (b' := w4.heap.size) (f' := 0) A3_0 (by omega) (.float .f64 (ofKey (A1)))
    replace A3_1 := At.set_blk (b' := w4.heap.size) (f' := 0) A3_1 (by omega) (.float .f64 (ofKey (A1)))
    replace A3_2 := At.set_blk (b' := w4.heap.size) (f' := 0) A3_2 (by omega) (.float .f64 (ofKey (A1)))
    replace A4_0 := At.set_blk (b' := w4.heap.size) (f' := 0) A4_0 (by omega) (.float .f64 (ofKey (A1)))
    replace A4_1 := At.set_blk (b' := w4.heap.size) (f' := 0) A4_1 (by omega) (.float .f64 (ofKey (A1)))
    replace A4_2 := At.set_blk (b' := w4.heap.size) (f' := 0) A4_2 (by omega) (.float .f64 (ofKey (A1)))
    replace A5_0 := At.set_blk (b' := w4.heap.size) (f' := 0) A5_0 (by omega) (.float .f64 (ofKey (A1)))
    replace A5_1 := At.set_blk (b' := w4.heap.size) (f' := 0) A5_1 (by omega) (.float .f64 (ofKey (A1)))
    replace A0_0 := At.set_blk (b' := w4.heap.size) (f' := 1) A0_0 (by omega) (.float .f64 (ofKey (B1)))
    replace A0_1 := At.set_blk (b' := w4.heap.size) (f' := 1) A0_1 (by omega) (.float .f64 (ofKey (B1)))
    replace A1_0 := At.set_blk (b' := w4.heap.size) (f' := 1) A1_0 (by omega) (.float .f64 (ofKey (B1)))
    replace A1_1 := At.set_blk (b' := w4.heap.size) (f' := 1) A1_1 (by omega) (.float .f64 (ofKey (B1)))
    replace A2_0 := At.set_off (f' := 1) A2_0 (by decide) (.float .f64 (ofKey (B1)))
    replace A2_1 := At.set_same A2_1 (.float .f64 (ofKey (B1)))
    replace A2_2 := At.set_off (f' := 1) A2_2 (by decide) (.float .f64 (ofKey (B1)))
    replace A3_0 := At.set_blk (b' := w4.heap.size) (f' := 1) A3_0 (by omega) (.float .f64 (ofKey (B1)))
    replace A3_1 := At.set_blk (b' := w4.heap.size) (f' := 1) A3_1 (by omega) (.float .f64 (ofKey (B1)))
    replace A3_2 := At.set_blk (b' := w4.heap.size) (f' := 1) A3_2 (by omega) (.float .f64 (ofKey (B1)))
    replace A4_0 := At.set_blk (b' := w4.heap.size) (f' := 1) A4_0 (by omega) (.float .f64 (ofKey (B1)))
    replace A4_1 := At.set_blk (b' := w4.heap.size) (f' := 1) A4_1 (by omega) (.float .f64 (ofKey (B1)))
    replace A4_2 := At.set_blk (b' := w4.heap.size) (f' := 1) A4_2 (by omega) (.float .f64 (ofKey (B1)))
    replace A5_0 := At.set_blk (b' := w4.heap.size) (f' := 1) A5_0 (by omega) (.float .f64 (ofKey (B1)))
    replace A5_1 := At.set_blk (b' := w4.heap.size) (f' := 1) A5_1 (by omega) (.float .f64 (ofKey (B1)))
    replace A0_0 := At.set_blk (b' := w4.heap.size) (f' := 2) A0_0 (by omega) (.int .i64 (p1))
    replace A0_1 := At.set_blk (b' := w4.heap.size) (f' := 2) A0_1 (by omega) (.int .i64 (p1))
    replace A1_0 := At.set_blk (b' := w4.heap.size) (f' := 2) A1_0 (by omega) (.int .i64 (p1))
    replace A1_1 := At.set_blk (b' := w4.heap.size) (f' := 2) A1_1 (by omega) (.int .i64 (p1))
    replace A2_0 := At.set_off (f' := 2) A2_0 (by decide) (.int .i64 (p1))
    replace A2_1 := At.set_off (f' := 2) A2_1 (by decide) (.int .i64 (p1))
    replace A2_2 := At.set_same A2_2 (.int .i64 (p1))
    replace A3_0 := At.set_blk (b' := w4.heap.size) (f' := 2) A3_0 (by omega) (.int .i64 (p1))
    replace A3_1 := At.set_blk (b' := w4.heap.size) (f' := 2) A3_1 (by omega) (.int .i64 (p1))
    replace A3_2 := At.set_blk (b' := w4.heap.size) (f' := 2) A3_2 (by omega) (.int .i64 (p1))
    replace A4_0 := At.set_blk (b' := w4.heap.size) (f' := 2) A4_0 (by omega) (.int .i64 (p1))
    replace A4_1 := At.set_blk (b' := w4.heap.size) (f' := 2) A4_1 (by omega) (.int .i64 (p1))
    replace A4_2 := At.set_blk (b' := w4.heap.size) (f' := 2) A4_2 (by omega) (.int .i64 (p1))
    replace A5_0 := At.set_blk (b' := w4.heap.size) (f' := 2) A5_0 (by omega) (.int .i64 (p1))
    replace A5_1 := At.set_blk (b' := w4.heap.size) (f' := 2) A5_1 (by omega) (.int .i64 (p1))
    have B' : Below w.heap.size w (World.setCell (World.setCell (World.setCell w8 ⟨w4.heap.size, 0, none⟩ (.float .f64 (ofKey (A1)))) ⟨w4.heap.size, 1, none⟩ (.float .f64 (ofKey (B1)))) ⟨w4.heap.size, 2, none⟩ (.int .i64 (p1))) := (Below.setCell (Below.setCell (Below.setCell B (p := ⟨w4.heap.size, 0, none⟩) (by first | (show w.heap.size ≤ w4.heap.size; omega) | (have := B.size; show w.heap.size ≤ w4.heap.size; omega)) (.float .f64 (ofKey (A1)))) (p := ⟨w4.heap.size, 1, none⟩) (by first | (show w.heap.size ≤ w4.heap.size; omega) | (have := B.size; show w.heap.size ≤ w4.heap.size; omega)) (.float .f64 (ofKey (B1)))) (p := ⟨w4.heap.size, 2, none⟩) (by first | (show w.heap.size ≤ w4.heap.size; omega) | (have := B.size; show w.heap.size ≤ w4.heap.size; omega)) (.int .i64 (p1)))
    clear B
    obtain ⟨w9, hw9⟩ : ∃ w9, w9 = (World.setCell (World.setCell (World.setCell w8 ⟨w4.heap.size, 0, none⟩ (.float .f64 (ofKey (A1)))) ⟨w4.heap.size, 1, none⟩ (.float .f64 (ofKey (B1)))) ⟨w4.heap.size, 2, none⟩ (.int .i64 (p1))) := ⟨_, rfl⟩
    rw [← hw9]
    replace A0_0 := At.of A0_0 hw9
    replace A0_1 := At.of A0_1 hw9
    replace A1_0 := At.of A1_0 hw9
    replace A1_1 := At.of A1_1 hw9
    replace A2_0 := At.of A2_0 hw9
    replace A2_1 := At.of A2_1 hw9
    replace A2_2 := At.of A2_2 hw9
    replace A3_0 := At.of A3_0 hw9
    replace A3_1 := At.of A3_1 hw9
    replace A3_2 := At.of A3_2 hw9
    replace A4_0 := At.of A4_0 hw9
    replace A4_1 := At.of A4_1 hw9
    replace A4_2 := At.of A4_2 hw9
    replace A5_0 := At.of A5_0 hw9
    replace A5_1 := At.of A5_1 hw9
    have B := below_of B' hw9
    clear B' hw9
    have F0_0 := A0_0.1; have G0_0 := A0_0.2
    have F0_1 := A0_1.1; have G0_1 := A0_1.2
    have F1_0 := A1_0.1; have G1_0 := A1_0.2
    have F1_1 := A1_1.1; have G1_1 := A1_1.2
    have F2_0 := A2_0.1; have G2_0 := A2_0.2
    have F2_1 := A2_1.1; have G2_1 := A2_1.2
    have F2_2 := A2_2.1; have G2_2 := A2_2.2
    have F3_0 := A3_0.1; have G3_0 := A3_0.2
    have F3_1 := A3_1.1; have G3_1 := A3_1.2
    have F3_2 := A3_2.1; have G3_2 := A3_2.2
    have F4_0 := A4_0.1; have G4_0 := A4_0.2
    have F4_1 := A4_1.1; have G4_1 := A4_1.2
    have F4_2 := A4_2.1; have G4_2 := A4_2.2
    have F5_0 := A5_0.1; have G5_0 := A5_0.2
    have F5_1 := A5_1.1; have G5_1 := A5_1.2
    have Z0 := A0_0.lt
    have Z1 := A1_0.lt
    have Z2 := A2_0.lt
    have Z3 := A3_0.lt
    have Z4 := A4_0.lt
    have Z5 := A5_0.lt
    go_wp2_with fail
    refine (EZ.out _).mono ?_
    rintro e w10 ⟨rfl, hbw10⟩
    clear F0_0 G0_0 F0_1 G0_1 F1_0 G1_0 F1_1 G1_1 F2_0 G2_0 F2_1 G2_1 F2_2 G2_2 F3_0 G3_0 F3_1 G3_1 F3_2 G3_2 F4_0 G4_0 F4_1 G4_1 F4_2 G4_2 F5_0 G5_0 F5_1 G5_1 Z0 Z1 Z2 Z3 Z4 Z5
    replace A0_0 := At.below (A0_0) hbw10
    replace A0_1 := At.below (A0_1) hbw10
    replace A1_0 := At.below (A1_0) hbw10
    replace A1_1 := At.below (A1_1) hbw10
    replace A2_0 := At.below (A2_0) hbw10
    replace A2_1 := At.below (A2_1) hbw10
    replace A2_2 := At.below (A2_2) hbw10
    replace A3_0 := At.below (A3_0) hbw10
    replace A3_1 := At.below (A3_1) hbw10
    replace A3_2 := At.below (A3_2) hbw10
    replace A4_0 := At.below (A4_0) hbw10
    replace A4_1 := At.below (A4_1) hbw10
    replace A4_2 := At.below (A4_2) hbw10
    replace A5_0 := At.below (A5_0) hbw10
    replace A5_1 := At.below (A5_1) hbw10
    replace B := below_step B B.size (hbw10)
    clear hbw10
    have F0_0 := A0_0.1; have G0_0 := A0_0.2
    have F0_1 := A0_1.1; have G0_1 := A0_1.2
    have F1_0 := A1_0.1; have G1_0 := A1_0.2
    have F1_1 := A1_1.1; have G1_1 := A1_1.2
    have F2_0 := A2_0.1; have G2_0 := A2_0.2
    have F2_1 := A2_1.1; have G2_1 := A2_1.2
    have F2_2 := A2_2.1; have G2_2 := A2_2.2
    have F3_0 := A3_0.1; have G3_0 := A3_0.2
    have F3_1 := A3_1.1; have G3_1 := A3_1.2
    have F3_2 := A3_2.1; have G3_2 := A3_2.2
    have F4_0 := A4_0.1; have G4_0 := A4_0.2
    have F4_1 := A4_1.1; have G4_1 := A4_1.2
    have F4_2 := A4_2.1; have G4_2 := A4_2.2
    have F5_0 := A5_0.1; have G5_0 := A5_0.2
    have F5_1 := A5_1.1; have G5_1 := A5_1.2
    have Z0 := A0_0.lt
    have Z1 := A1_0.lt
    have Z2 := A2_0.lt
    have Z3 := A3_0.lt
    have Z4 := A4_0.lt
    have Z5 := A5_0.lt
    dsimp only
    iterate 4 go_step
    clear F0_0 G0_0 F0_1 G0_1 F1_0 G1_0 F1_1 G1_1 F2_0 G2_0 F2_1 G2_1 F2_2 G2_2 F3_0 G3_0 F3_1 G3_1 F3_2 G3_2 F4_0 G4_0 F4_1 G4_1 F4_2 G4_2 F5_0 G5_0 F5_1 G5_1 Z0 Z1 Z2 Z3 Z4 Z5
    replace A0_0 := At.set_blk (b' := w5.heap.size) (f' := 0) A0_0 (by omega) (.float .f64 (ofKey (C1)))
    replace A0_1 := At.set_blk (b' := w5.heap.size) (f' := 0) A0_1 (by omega) (.float .f64 (ofKey (C1)))
    replace A1_0 := At.set_blk (b' := w5.heap.size) (f' := 0) A1_0 (by omega) (.float .f64 (ofKey (C1)))
    replace A1_1 := At.set_blk (b' := w5.heap.size) (f' := 0) A1_1 (by omega) (.float .f64 (ofKey (C1)))
    replace A2_0 := At.set_blk (b' := w5.heap.size) (f' := 0) A2_0 (by omega) (.float .f64 (ofKey (C1)))
    replace A2_1 := At.set_blk (b' := w5.heap.size) (f' := 0) A2_1 (by omega) (.float .f64 (ofKey (C1)))
    replace A2_2 := At.set_blk (b' := w5.heap.size) (f' := 0) A2_2 (by omega) (.float .f64 (ofKey (C1)))
    replace A3_0 := At.set_same A3_0 (.float .f64 (ofKey (C1)))
    replace A3_1 := At.set_off (f' := 0) A3_1 (by decide) (.float .f64 (ofKey (C1)))
    replace A3_2 := At.set_off (f' := 0) A3_2 (by decide) (.float .f64 (ofKey (C1)))
    replace A4_0 := At.set_blk (b' := w5.heap.size) (f' := 0) A4_0 (by omega) (.float .f64 (ofKey (C1)))
    replace A4_1 := At.set_blk (b' := w5.heap.size) (f' := 0) A4_1 (by omega) (.float .f64 (ofKey (C1)))
    replace A4_2 := At.set_blk (b' := w5.heap.size) (f' := 0) A4_2 (by omega) (.float .f64 (ofKey (C1)))
    replace A5_0 := At.set_blk (b' := w5.heap.size) (f' := 0) A5_0 (by omega) (.float .f64 (ofKey (C1)))
    replace A5_1 := At.set_blk (b' := w5.heap.size) (f' := 0) A5_1 (by omega) (.float .f64 (ofKey (C1)))
    replace A0_0 := At.set_blk (b' := w5.heap.size) (f' := 1) A0_0 (by omega) (.float .f64 (ofKey (D1)))
    replace A0_1 := At.set_blk (b' := w5.heap.size) (f' := 1) A0_1 (by omega) (.float .f64 (ofKey (D1)))
    replace A1_0 := At.set_blk (b' := w5.heap.size) (f' := 1) A1_0 (by omega) (.float .f64 (ofKey (D1)))
    replace A1_1 := At.set_blk (b' := w5.heap.size) (f' := 1) A1_1 (by omega) (.float .f64 (ofKey (D1)))
    replace A2_0 := At.set_blk (b' := w5.heap.size) (f' := 1) A2_0 (by omega) (.float .f64 (ofKey (D1)))
    replace A2_1 := At.set_blk (b' := w5.heap.size) (f' := 1) A2_1 (by omega) (.float .f64 (ofKey (D1)))
    replace A2_2 := At.set_blk (b' := w5.heap.size) (f' := 1) A2_2 (by omega) (.float .f64 (ofKey (D1)))
    replace A3_0 := At.set_off (f' := 1) A3_0 (by decide) (.float .f64 (ofKey (D1)))
    replace A3_1 := At.set_same A3_1 (.float .f64 (ofKey (D1)))
    replace A3_2 := At.set_off (f' := 1) A3_2 (by decide) (.float .f64 (ofKey (D1)))
    replace A4_0 := At.set_blk (b' := w5.heap.size) (f' := 1) A4_0 (by omega) (.float .f64 (ofKey (D1)))
    replace A4_1 := At.set_blk (b' := w5.heap.size) (f' := 1) A4_1 (by omega) (.float .f64 (ofKey (D1)))
    replace A4_2 := At.set_blk (b' := w5.heap.size) (f' := 1) A4_2 (by omega) (.float .f64 (ofKey (D1)))
    replace A5_0 := At.set_blk (b' := w5.heap.size) (f' := 1) A5_0 (by omega) (.float .f64 (ofKey (D1)))
    replace A5_1 := At.set_blk (b' := w5.heap.size) (f' := 1) A5_1 (by omega) (.float .f64 (ofKey (D1)))
    replace A0_0 := At.set_blk (b' := w5.heap.size) (f' := 2) A0_0 (by omega) (.int .i64 (q1))
    replace A0_1 := At.set_blk (b' := w5.heap.size) (f' := 2) A0_1 (by omega) (.int .i64 (q1))
    replace A1_0 := At.set_blk (b' := w5.heap.size) (f' := 2) A1_0 (by omega) (.int .i64 (q1))
    replace A1_1 := At.set_blk (b' := w5.heap.size) (f' := 2) A1_1 (by omega) (.int .i64 (q1))
    replace A2_0 := At.set_blk (b' := w5.heap.size) (f' := 2) A2_0 (by omega) (.int .i64 (q1))
    replace A2_1 := At.set_blk (b' := w5.heap.size) (f' := 2) A2_1 (by omega) (.int .i64 (q1))
    replace A2_2 := At.set_blk (b' := w5.heap.size) (f' := 2) A2_2 (by omega) (.int .i64 (q1))
    replace A3_0 := At.set_off (f' := 2) A3_0 (by decide) (.int .i64 (q1))
    replace A3_1 := At.set_off (f' := 2) A3_1 (by decide) (.int .i64 (q1))
    replace A3_2 := At.set_same A3_2 (.int .i64 (q1))
    replace A4_0 := At.set_blk (b' := w5.heap.size) (f' := 2) A4_0 (by omega) (.int .i64 (q1))
    replace A4_1 := At.set_blk (b' := w5.heap.size) (f' := 2) A4_1 (by omega) (.int .i64 (q1))
    replace A4_2 := At.set_blk (b' := w5.heap.size) (f' := 2) A4_2 (by omega) (.int .i64 (q1))
    replace A5_0 := At.set_blk (b' := w5.heap.size) (f' := 2) A5_0 (by omega) (.int .i64 (q1))
    replace A5_1 := At.set_blk (b' := w5.heap.size) (f' := 2) A5_1 (by omega) (.int .i64 (q1))
    have B' : Below w.heap.size w (World.setCell (World.setCell (World.setCell w10 ⟨w5.heap.size, 0, none⟩ (.float .f64 (ofKey (C1)))) ⟨w5.heap.size, 1, none⟩ (.float .f64 (ofKey (D1)))) ⟨w5.heap.size, 2, none⟩ (.int .i64 (q1))) := (Below.setCell (Below.setCell (Below.setCell B (p := ⟨w5.heap.size, 0, none⟩) (by first | (show w.heap.size ≤ w5.heap.size; omega) | (have := B.size; show w.heap.size ≤ w5.heap.size; omega)) (.float .f64 (ofKey (C1)))) (p := ⟨w5.heap.size, 1, none⟩) (by first | (show w.heap.size ≤ w5.heap.size; omega) | (have := B.size; show w.heap.size ≤ w5.heap.size; omega)) (.float .f64 (ofKey (D1)))) (p := ⟨w5.heap.size, 2, none⟩) (by first | (show w.heap.size ≤ w5.heap.size; omega) | (have := B.size; show w.heap.size ≤ w5.heap.size; omega)) (.int .i64 (q1)))
    clear B
    obtain ⟨w11, hw11⟩ : ∃ w11, w11 = (World.setCell (World.setCell (World.setCell w10 ⟨w5.heap.size, 0, none⟩ (.float .f64 (ofKey (C1)))) ⟨w5.heap.size, 1, none⟩ (.float .f64 (ofKey (D1)))) ⟨w5.heap.size, 2, none⟩ (.int .i64 (q1))) := ⟨_, rfl⟩
    rw [← hw11]
    replace A0_0 := At.of A0_0 hw11
    replace A0_1 := At.of A0_1 hw11
    replace A1_0 := At.of A1_0 hw11
    replace A1_1 := At.of A1_1 hw11
    replace A2_0 := At.of A2_0 hw11
    replace A2_1 := At.of A2_1 hw11
    replace A2_2 := At.of A2_2 hw11
    replace A3_0 := At.of A3_0 hw11
    replace A3_1 := At.of A3_1 hw11
    replace A3_2 := At.of A3_2 hw11
    replace A4_0 := At.of A4_0 hw11
    replace A4_1 := At.of A4_1 hw11
    replace A4_2 := At.of A4_2 hw11
    replace A5_0 := At.of A5_0 hw11
    replace A5_1 := At.of A5_1 hw11
    have B := below_of B' hw11
    clear B' hw11
    have F0_0 := A0_0.1; have G0_0 := A0_0.2
    have F0_1 := A0_1.1; have G0_1 := A0_1.2
    have F1_0 := A1_0.1; have G1_0 := A1_0.2
    have F1_1 := A1_1.1; have G1_1 := A1_1.2
    have F2_0 := A2_0.1; have G2_0 := A2_0.2
    have F2_1 := A2_1.1; have G2_1 := A2_1.2
    have F2_2 := A2_2.1; have G2_2 := A2_2.2
    have F3_0 := A3_0.1; have G3_0 := A3_0.2
    have F3_1 := A3_1.1; have G3_1 := A3_1.2
    have F3_2 := A3_2.1; have G3_2 := A3_2.2
    have F4_0 := A4_0.1; have G4_0 := A4_0.2
    have F4_1 := A4_1.1; have G4_1 := A4_1.2
    have F4_2 := A4_2.1; have G4_2 := A4_2.2
    have F5_0 := A5_0.1; have G5_0 := A5_0.2
    have F5_1 := A5_1.1; have G5_1 := A5_1.2
    have Z0 := A0_0.lt
    have Z1 := A1_0.lt
    have Z2 := A2_0.lt
    have Z3 := A3_0.lt
    have Z4 := A4_0.lt
    have Z5 := A5_0.lt
    go_wp2_with fail
    refine (DS.out _).mono ?_
    rintro e w12 ⟨rfl, hbw12⟩
    clear F0_0 G0_0 F0_1 G0_1 F1_0 G1_0 F1_1 G1_1 F2_0 G2_0 F2_1 G2_1 F2_2 G2_2 F3_0 G3_0 F3_1 G3_1 F3_2 G3_2 F4_0 G4_0 F4_1 G4_1 F4_2 G4_2 F5_0 G5_0 F5_1 G5_1 Z0 Z1 Z2 Z3 Z4 Z5
    replace A0_0 := At.below (A0_0) hbw12
    replace A0_1 := At.below (A0_1) hbw12
    replace A1_0 := At.below (A1_0) hbw12
    replace A1_1 := At.below (A1_1) hbw12
    replace A2_0 := At.below (A2_0) hbw12
    replace A2_1 := At.below (A2_1) hbw12
    replace A2_2 := At.below (A2_2) hbw12
    replace A3_0 := At.below (A3_0) hbw12
    replace A3_1 := At.below (A3_1) hbw12
    replace A3_2 := At.below (A3_2) hbw12
    replace A4_0 := At.below (A4_0) hbw12
    replace A4_1 := At.below (A4_1) hbw12
    replace A4_2 := At.below (A4_2) hbw12
    replace A5_0 := At.below (A5_0) hbw12
    replace A5_1 := At.below (A5_1) hbw12
    replace B := below_step B B.size (hbw12)
    clear hbw12
    have F0_0 := A0_0.1; have G0_0 := A0_0.2
    have F0_1 := A0_1.1; have G0_1 := A0_1.2
    have F1_0 := A1_0.1; have G1_0 := A1_0.2
    have F1_1 := A1_1.1; have G1_1 := A1_1.2
    have F2_0 := A2_0.1; have G2_0 := A2_0.2
    have F2_1 := A2_1.1; have G2_1 := A2_1.2
    have F2_2 := A2_2.1; have G2_2 := A2_2.2
    have F3_0 := A3_0.1; have G3_0 := A3_0.2
    have F3_1 := A3_1.1; have G3_1 := A3_1.2
    have F3_2 := A3_2.1; have G3_2 := A3_2.2
    have F4_0 := A4_0.1; have G4_0 := A4_0.2
    have F4_1 := A4_1.1; have G4_1 := A4_1.2
    have F4_2 := A4_2.1; have G4_2 := A4_2.2
    have F5_0 := A5_0.1; have G5_0 := A5_0.2
    have F5_1 := A5_1.1; have G5_1 := A5_1.2
    have Z0 := A0_0.lt
    have Z1 := A1_0.lt
    have Z2 := A2_0.lt
    have Z3 := A3_0.lt
    have Z4 := A4_0.lt
    have Z5 := A5_0.lt
    by_cases h6 : 6 ≤ o
    · have s4 := s3 h6
      go_wp2_with fail
      go_ret
      exact ⟨rfl, Below.alloc B B.size _⟩
    · go_wp2_with fail
      go_ret
      exact ⟨rfl, Below.alloc B B.size _⟩
  · skip
    go_wp2_with fail
    refine (EX.out _).mono ?_
    rintro e w8 ⟨rfl, hbw8⟩
    clear F0_0 G0_0 F0_1 G0_1 F1_0 G1_0 F1_1 G1_1 F2_0 G2_0 F2_1 G2_1 F2_2 G2_2 F3_0 G3_0 F3_1 G3_1 F3_2 G3_2 F4_0 G4_0 F4_1 G4_1 F4_2 G4_2 Z0 Z1 Z2 Z3 Z4
    have n5 : w6.heap.size < w7.heap.size := At.lt A4_2
    replace A0_0 := At.below (At.alloc (A0_0)) hbw8
    replace A0_1 := At.below (At.alloc (A0_1)) hbw8
    replace A1_0 := At.below (At.alloc (A1_0)) hbw8
    replace A1_1 := At.below (At.alloc (A1_1)) hbw8
    replace A2_0 := At.below (At.alloc (A2_0)) hbw8
    replace A2_1 := At.below (At.alloc (A2_1)) hbw8
    replace A2_2 := At.below (At.alloc (A2_2)) hbw8
    replace A3_0 := At.below (At.alloc (A3_0)) hbw8
    replace A3_1 := At.below (At.alloc (A3_1)) hbw8
    replace A3_2 := At.below (At.alloc (A3_2)) hbw8
    replace A4_0 := At.below (At.alloc (A4_0)) hbw8
    replace A4_1 := At.below (At.alloc (A4_1)) hbw8
    replace A4_2 := At.below (At.alloc (A4_2)) hbw8
    have A5_0 : At (World.alloc w7 (.cells #[.float .f64 (ofKey (X)), .float .f64 (ofKey (Y))] 27)) (w7.heap.size) 0 (.float .f64 (ofKey (X))) := ⟨by simp [go_sem], by simp [go_sem]⟩
    replace A5_0 := At.below A5_0 hbw8
    have A5_1 : At (World.alloc w7 (.cells #[.float .f64 (ofKey (X)), .float .f64 (ofKey (Y))] 27)) (w7.heap.size) 1 (.float .f64 (ofKey (Y))) := ⟨by simp [go_sem], by simp [go_sem]⟩
    replace A5_1 := At.below A5_1 hbw8
    replace B := below_step B B.size (below_alloc (hbw8))
    clear hbw8
    have F0_0 := A0_0.1; have G0_0 := A0_0.2
    have F0_1 := A0_1.1; have G0_1 := A0_1.2
    have F1_0 := A1_0.1; have G1_0 := A1_0.2
    have F1_1 := A1_1.1; have G1_1 := A1_1.2
    have F2_0 := A2_0.1; have G2_0 := A2_0.2
    have F2_1 := A2_1.1; have G2_1 := A2_1.2
    have F2_2 := A2_2.1; have G2_2 := A2_2.2
    have F3_0 := A3_0.1; have G3_0 := A3_0.2
    have F3_1 := A3_1.1; have G3_1 := A3_1.2
    have F3_2 := A3_2.1; have G3_2 := A3_2.2
    have F4_0 := A4_0.1; have G4_0 := A4_0.2
    have F4_1 := A4_1.1; have G4_1 := A4_1.2
    have F4_2 := A4_2.1; have G4_2 := A4_2.2
    have F5_0 := A5_0.1; have G5_0 := A5_0.2
    have F5_1 := A5_1.1; have G5_1 := A5_1.2
    have Z0 := A0_0.lt
    have Z1 := A1_0.lt
    have Z2 := A2_0.lt
    have Z3 := A3_0.lt
    have Z4 := A4_0.lt
    have Z5 := A5_0.lt
    dsimp only
    iterate 4 go_step
    clear F0_0 G0_0 F0_1 G0_1 F1_0 G1_0 F1_1 G1_1 F2_0 G2_0 F2_1 G2_1 F2_2 G2_2 F3_0 G3_0 F3_1 G3_1 F3_2 G3_2 F4_0 G4_0 F4_1 G4_1 F4_2 G4_2 F5_0 G5_0 F5_1 G5_1 Z0 Z1 Z2 Z3 Z4 Z5
    replace A0_0 := At.set_blk (b' := w4.heap.size) (f' := 0) A0_0 (by omega) (.float .f64 (ofKey (A1)))
    replace A0_1 := At.set_blk (b' := w4.heap.size) (f' := 0) A0_1 (by omega) (.float .f64 (ofKey (A1)))
    replace A1_0 := At.set_blk (b' := w4.heap.size) (f' := 0) A1_0 (by omega) (.float .f64 (ofKey (A1)))
    replace A1_1 := At.set_blk (b' := w4.heap.size) (f' := 0) A1_1 (by omega) (.float .f64 (ofKey (A1)))
    replace A2_0 := At.set_same A2_0 (.float .f64 (ofKey (A1)))
    replace A2_1 := At.set_off (f' := 0) A2_1 (by decide) (.float .f64 (ofKey (A1)))
    replace A2_2 := At.set_off (f' := 0) A2_2 (by decide) (.float .f64 (ofKey (A1)))
    replace A3_0 := At.set_blk (b' := w4.heap.size) (f' := 0) A3_0 (by omega) (.float .f64 (ofKey (A1)))
    replace A3_1 := At.set_blk (b' := w4.heap.size) (f' := 0) A3_1 (by omega) (.float .f64 (ofKey (A1)))
    replace A3_2 := At.set_blk (b' := w4.heap.size) (f' := 0) A3_2 (by omega) (.float .f64 (ofKey (A1)))
    replace A4_0 := At.set_blk (b' := w4.heap.size) (f' := 0) A4_0 (by omega) (.float .f64 (ofKey (A1)))
    replace A4_1 := At.set_blk (b' := w4.heap.size) (f' := 0) A4_1 (by omega) (.float .f64 (ofKey (A1)))
    replace A4_2 := At.set_blk (b' := w4.heap.size) (f' := 0) A4_2 (by omega) (.float .f64 (ofKey (A1)))
    replace A5_0 := At.set_blk (b' := w4.heap.size) (f' := 0) A5_0 (by omega) (.float .f64 (ofKey (A1)))
    replace A5_1 := At.set_blk (b' := w4.heap.size) (f' := 0) A5_1 (by omega) (.float .f64 (ofKey (A1)))
    replace A0_0 := At.set_blk (b' := w4.heap.size) (f' := 1) A0_0 (by omega) (.float .f64 (ofKey (B1)))
    replace A0_1 := At.set_blk (b' := w4.heap.size) (f' := 1) A0_1 (by omega) (.float .f64 (ofKey (B1)))
    replace A1_0 := At.set_blk (b' := w4.heap.size) (f' := 1) A1_0 (by omega) (.float .f64 (ofKey (B1)))
    replace A1_1 := At.set_blk (b' := w4.heap.size) (f' := 1) A1_1 (by omega) (.float .f64 (ofKey (B1)))
    replace A2_0 := At.set_off (f' := 1) A2_0 (by decide) (.float .f64 (ofKey (B1)))
    replace A2_1 := At.set_same A2_1 (.float .f64 (ofKey (B1)))
    replace A2_2 := At.set_off (f' := 1) A2_2 (by decide) (.float .f64 (ofKey (B1)))
    replace A3_0 := At.set_blk (b' := w4.heap.size) (f' := 1) A3_0 (by omega) (.float .f64 (ofKey (B1)))
    replace A3_1 := At.set_blk (b' := w4.heap.size) (f' := 1) A3_1 (by omega) (.float .f64 (ofKey (B1)))
    replace A3_2 := At.set_blk (b' := w4.heap.size) (f' := 1) A3_2 (by omega) (.float .f64 (ofKey (B1)))
    replace A4_0 := At.set_blk (b' := w4.heap.size) (f' := 1) A4_0 (by omega) (.float .f64 (ofKey (B1)))
    replace A4_1 := At.set_blk (b' := w4.heap.size) (f' := 1) A4_1 (by omega) (.float .f64 (ofKey (B1)))
    replace A4_2 := At.set_blk (b' := w4.heap.size) (f' := 1) A4_2 (by omega) (.float .f64 (ofKey (B1)))
    replace A5_0 := At.set_blk (b' := w4.heap.size) (f' := 1) A5_0 (by omega) (.float .f64 (ofKey (B1)))
    replace A5_1 := At.set_blk (b' := w4.heap.size) (f' := 1) A5_1 (by omega) (.float .f64 (ofKey (B1)))
    replace A0_0 := At.set_blk (b' := w4.heap.size) (f' := 2) A0_0 (by omega) (.int .i64 (p1))
    replace A0_1 := At.set_blk (b' := w4.heap.size) (f' := 2) A0_1 (by omega) (.int .i64 (p1))
    replace A1_0 := At.set_blk (b' := w4.heap.size) (f' := 2) A1_0 (by omega) (.int .i64 (p1))
    replace A1_1 := At.set_blk (b' := w4.heap.size) (f' := 2) A1_1 (by omega) (.int .i64 (p1))
    replace A2_0 := At.set_off (f' := 2) A2_0 (by decide) (.int .i64 (p1))
    replace A2_1 := At.set_off (f' := 2) A2_1 (by decide) (.int .i64 (p1))
    replace A2_2 := At.set_same A2_2 (.int .i64 (p1))
    replace A3_0 := At.set_blk (b' := w4.heap.size) (f' := 2) A3_0 (by omega) (.int .i64 (p1))
    replace A3_1 := At.set_blk (b' := w4.heap.size) (f' := 2) A3_1 (by omega) (.int .i64 (p1))
    replace A3_2 := At.set_blk (b' := w4.heap.size) (f' := 2) A3_2 (by omega) (.int .i64 (p1))
    replace A4_0 := At.set_blk (b' := w4.heap.size) (f' := 2) A4_0 (by omega) (.int .i64 (p1))
    replace A4_1 := At.set_blk (b' := w4.heap.size) (f' := 2) A4_1 (by omega) (.int .i64 (p1))
    replace A4_2 := At.set_blk (b' := w4.heap.size) (f' := 2) A4_2 (by omega) (.int .i64 (p1))
    replace A5_0 := At.set_blk (b' := w4.heap.size) (f' := 2) A5_0 (by omega) (.int .i64 (p1))
    replace A5_1 := At.set_blk (b' := w4.heap.size) (f' := 2) A5_1 (by omega) (.int .i64 (p1))
    have B' : Below w.heap.size w (World.setCell (World.setCell (World.setCell w8 ⟨w4.heap.size, 0, none⟩ (.float .f64 (ofKey (A1)))) ⟨w4.heap.size, 1, none⟩ (.float .f64 (ofKey (B1)))) ⟨w4.heap.size, 2, none⟩ (.int .i64 (p1))) := (Below.setCell (Below.setCell (Below.setCell B (p := ⟨w4.heap.size, 0, none⟩) (by first | (show w.heap.size ≤ w4.heap.size; omega) | (have := B.size; show w.heap.size ≤ w4.heap.size; omega)) (.float .f64 (ofKey (A1)))) (p := ⟨w4.heap.size, 1, none⟩) (by first | (show w.heap.size ≤ w4.heap.size; omega) | (have := B.size; show w.heap.size ≤ w4.heap.size; omega)) (.float .f64 (ofKey (B1)))) (p := ⟨w4.heap.size, 2, none⟩) (by first | (show w.heap.size ≤ w4.heap.size; omega) | (have := B.size; show w.heap.size ≤ w4.heap.size; omega)) (.int .i64 (p1)))
    clear B
    obtain ⟨w9, hw9⟩ : ∃ w9, w9 = (World.setCell (World.setCell (World.setCell w8 ⟨w4.heap.size, 0, none⟩ (.float .f64 (ofKey (A1)))) ⟨w4.heap.size, 1, none⟩ (.float .f64 (ofKey (B1)))) ⟨w4.heap.size, 2, none⟩ (.int .i64 (p1))) := ⟨_, rfl⟩
    rw [← hw9]
    replace A0_0 := At.of A0_0 hw9
    replace A0_1 := At.of A0_1 hw9
    replace A1_0 := At.of A1_0 hw9
    replace A1_1 := At.of A1_1 hw9
    replace A2_0 := At.of A2_0 hw9
    replace A2_1 := At.of A2_1 hw9
    replace A2_2 := At.of A2_2 hw9
    replace A3_0 := At.of A3_0 hw9
    replace A3_1 := At.of A3_1 hw9
    replace A3_2 := At.of A3_2 hw9
    replace A4_0 := At.of A4_0 hw9
    replace A4_1 := At.of A4_1 hw9
    replace A4_2 := At.of A4_2 hw9
    replace A5_0 := At.of A5_0 hw9
    replace A5_1 := At.of A5_1 hw9
    have B := below_of B' hw9
    clear B' hw9
    have F0_0 := A0_0.1; have G0_0 := A0_0.2
    have F0_1 := A0_1.1; have G0_1 := A0_1.2
    have F1_0 := A1_0.1; have G1_0 := A1_0.2
    have F1_1 := A1_1.1; have G1_1 := A1_1.2
    have F2_0 := A2_0.1; have G2_0 := A2_0.2
    have F2_1 := A2_1.1; have G2_1 := A2_1.2
    have F2_2 := A2_2.1; have G2_2 := A2_2.2
    have F3_0 := A3_0.1; have G3_0 := A3_0.2
    have F3_1 := A3_1.1; have G3_1 := A3_1.2
    have F3_2 := A3_2.1; have G3_2 := A3_2.2
    have F4_0 := A4_0.1; have G4_0 := A4_0.2
    have F4_1 := A4_1.1; have G4_1 := A4_1.2
    have F4_2 := A4_2.1; have G4_2 := A4_2.2
    have F5_0 := A5_0.1; have G5_0 := A5_0.2
    have F5_1 := A5_1.1; have G5_1 := A5_1.2
    have Z0 := A0_0.lt
    have Z1 := A1_0.lt
    have Z2 := A2_0.lt
    have Z3 := A3_0.lt
    have Z4 := A4_0.lt
    have Z5 := A5_0.lt
    go_wp2_with fail
    refine (EZ.out _).mono ?_
    rintro e w10 ⟨rfl, hbw10⟩
    clear F0_0 G0_0 F0_1 G0_1 F1_0 G1_0 F1_1 G1_1 F2_0 G2_0 F2_1 G2_1 F2_2 G2_2 F3_0 G3_0 F3_1 G3_1 F3_2 G3_2 F4_0 G4_0 F4_1 G4_1 F4_2 G4_2 F5_0 G5_0 F5_1 G5_1 Z0 Z1 Z2 Z3 Z4 Z5
    replace A0_0 := At.below (A0_0) hbw10
    replace A0_1 := At.below (A0_1) hbw10
    replace A1_0 := At.below (A1_0) hbw10
    replace A1_1 := At.below (A1_1) hbw10
    replace A2_0 := At.below (A2_0) hbw10
    replace A2_1 := At.below (A2_1) hbw10
    replace A2_2 := At.below (A2_2) hbw10
    replace A3_0 := At.below (A3_0) hbw10
    replace A3_1 := At.below (A3_1) hbw10
    replace A3_2 := At.below (A3_2) hbw10
    replace A4_0 := At.below (A4_0) hbw10
    replace A4_1 := At.below (A4_1) hbw10
    replace A4_2 := At.below (A4_2) hbw10
    replace A5_0 := At.below (A5_0) hbw10
    replace A5_1 := At.below (A5_1) hbw10
    replace B := below_step B B.size (hbw10)
    clear hbw10
    have F0_0 := A0_0.1; have G0_0 := A0_0.2
    have F0_1 := A0_1.1; have G0_1 := A0_1.2
    have F1_0 := A1_0.1; have G1_0 := A1_0.2
    have F1_1 := A1_1.1; have G1_1 := A1_1.2
    have F2_0 := A2_0.1; have G2_0 := A2_0.2
    have F2_1 := A2_1.1; have G2_1 := A2_1.2
    have F2_2 := A2_2.1; have G2_2 := A2_2.2
    have F3_0 := A3_0.1; have G3_0 := A3_0.2
    have F3_1 := A3_1.1; have G3_1 := A3_1.2
    have F3_2 := A3_2.1; have G3_2 := A3_2.2
    have F4_0 := A4_0.1; have G4_0 := A4_0.2
    have F4_1 := A4_1.1; have G4_1 := A4_1.2
    have F4_2 := A4_2.1; have G4_2 := A4_2.2
    have F5_0 := A5_0.1; have G5_0 := A5_0.2
    have F5_1 := A5_1.1; have G5_1 := A5_1.2
    have Z0 := A0_0.lt
    have Z1 := A1_0.lt
    have Z2 := A2_0.lt
    have Z3 := A3_0.lt
    have Z4 := A4_0.lt
    have Z5 := A5_0.lt
    dsimp only
    iterate 4 go_step
    clear F0_0 G0_0 F0_1 G0_1 F1_0 G1_0 F1_1 G1_1 F2_0 G2_0 F2_1 G2_1 F2_2 G2_2 F3_0 G3_0 F3_1 G3_1 F3_2 G3_2 F4_0 G4_0 F4_1 G4_1 F4_2 G4_2 F5_0 G5_0 F5_1 G5_1 Z0 Z1 Z2 Z3 Z4 Z5
    replace A0_0 := At.set_blk (b' := w5.heap.size) (f' := 0) A0_0 (by omega) (.float .f64 (ofKey (C1)))
    replace A0_1 := At.set_blk (b' := w5.heap.size) (f' := 0) A0_1 (by omega) (.float .f64 (ofKey (C1)))
    replace A1_0 := At.set_blk (b' := w5.heap.size) (f' := 0) A1_0 (by omega) (.float .f64 (ofKey (C1)))
    replace A1_1 := At.set_blk (b' := w5.heap.size) (f' := 0) A1_1 (by omega) (.float .f64 (ofKey (C1)))
    replace A2_0 := At.set_blk (b' := w5.heap.size) (f' := 0) A2_0 (by omega) (.float .f64 (ofKey (C1)))
    replace A2_1 := At.set_blk (b' := w5.heap.size) (f' := 0) A2_1 (by omega) (.float .f64 (ofKey (C1)))
    replace A2_2 := At.set_blk (b' := w5.heap.size) (f' := 0) A2_2 (by omega) (.float .f64 (ofKey (C1)))
    replace A3_0 := At.set_same A3_0 (.float .f64 (ofKey (C1)))
    replace A3_1 := At.set_off (f' := 0) A3_1 (by decide) (.float .f64 (ofKey (C1)))
    replace A3_2 := At.set_off (f' := 0) A3_2 (by decide) (.float .f64 (ofKey (C1)))
    replace A4_0 := At.set_blk (b' := w5.heap.size) (f' := 0) A4_0 (by omega) (.float .f64 (ofKey (C1)))
    replace A4_1 := At.set_blk (b' := w5.heap.size) (f' := 0) A4_1 (by omega) (.float .f64 (ofKey (C1)))
    replace A4_2 := At.set_blk (b' := w5.heap.size) (f' := 0) A4_2 (by omega) (.float .f64 (ofKey (C1)))
    replace A5_0 := At.set_blk (b' := w5.heap.size) (f' := 0) A5_0 (by omega) (.float .f64 (ofKey (C1)))
    replace A5_1 := At.set_blk (b' := w5.heap.size) (f' := 0) A5_1 (by omega) (.float .f64 (ofKey (C1)))
    replace A0_0 := At.set_blk (b' := w5.heap.size) (f' := 1) A0_0 (by omega) (.float .f64 (ofKey (D1)))
    replace A0_1 := At.set_blk (b' := w5.heap.size) (f' := 1) A0_1 (by omega) (.float .f64 (ofKey (D1)))
    replace A1_0 := At.set_blk (b' := w5.heap.size) (f' := 1) A1_0 (by omega) (.float .f64 (ofKey (D1)))
    replace A1_1 := At.set_blk (b' := w5.heap.size) (f' := 1) A1_1 (by omega) (.float .f64 (ofKey (D1)))
    replace A2_0 := At.set_blk (b' := w5.heap.size) (f' := 1) A2_0 (by omega) (.float .f64 (ofKey (D1)))
    replace A2_1 := At.set_blk (b' := w5.heap.size) (f' := 1) A2_1 (by omega) (.float .f64 (ofKey (D1)))
    replace A2_2 := At.set_blk (b' := w5.heap.size) (f' := 1) A2_2 (by omega) (.float .f64 (ofKey (D1)))
    replace A3_0 := At.set_off (f' := 1) A3_0 (by decide) (.float .f64 (ofKey (D1)))
    replace A3_1 := At.set_same A3_1 (.float .f64 (ofKey (D1)))
    replace A3_2 := At.set_off (f' := 1) A3_2 (by decide) (.float .f64 (ofKey (D1)))
    replace A4_0 := At.set_blk (b' := w5.heap.size) (f' := 1) A4_0 (by omega) (.float .f64 (ofKey (D1)))
    replace A4_1 := At.set_blk (b' := w5.heap.size) (f' := 1) A4_1 (by omega) (.float .f64 (ofKey (D1)))
    replace A4_2 := At.set_blk (b' := w5.heap.size) (f' := 1) A4_2 (by omega) (.float .f64 (ofKey (D1)))
    replace A5_0 := At.set_blk (b' := w5.heap.size) (f' := 1) A5_0 (by omega) (.float .f64 (ofKey (D1)))
    replace A5_1 := At.set_blk (b' := w5.heap.size) (f' := 1) A5_1 (by omega) (.float .f64 (ofKey (D1)))
    replace A0_0 := At.set_blk (b' := w5.heap.size) (f' := 2) A0_0 (by omega) (.int .i64 (q1))
    replace A0_1 := At.set_blk (b' := w5.heap.size) (f' := 2) A0_1 (by omega) (.int .i64 (q1))
    replace A1_0 := At.set_blk (b' := w5.heap.size) (f' := 2) A1_0 (by omega) (.int .i64 (q1))
    replace A1_1 := At.set_blk (b' := w5.heap.size) (f' := 2) A1_1 (by omega) (.int .i64 (q1))
    replace A2_0 := At.set_blk (b' := w5.heap.size) (f' := 2) A2_0 (by omega) (.int .i64 (q1))
    replace A2_1 := At.set_blk (b' := w5.heap.size) (f' := 2) A2_1 (by omega) (.int .i64 (q1))
    replace A2_2 := At.set_blk (b' := w5.heap.size) (f' := 2) A2_2 (by omega) (.int .i64 (q1))
    replace A3_0 := At.set_off (f' := 2) A3_0 (by decide) (.int .i64 (q1))
    replace A3_1 := At.set_off (f' := 2) A3_1 (by decide) (.int .i64 (q1))
    replace A3_2 := At.set_same A3_2 (.int .i64 (q1))
    replace A4_0 := At.set_blk (b' := w5.heap.size) (f' := 2) A4_0 (by omega) (.int .i64 (q1))
    replace A4_1 := At.set_blk (b' := w5.heap.size) (f' := 2) A4_1 (by omega) (.int .i64 (q1))
    replace A4_2 := At.set_blk (b' := w5.heap.size) (f' := 2) A4_2 (by omega) (.int .i64 (q1))
    replace A5_0 := At.set_blk (b' := w5.heap.size) (f' := 2) A5_0 (by omega) (.int .i64 (q1))
    replace A5_1 := At.set_blk (b' := w5.heap.size) (f' := 2) A5_1 (by omega) (.int .i64 (q1))
    have B' : Below w.heap.size w (World.setCell (World.setCell (World.setCell w10 ⟨w5.heap.size, 0, none⟩ (.float .f64 (ofKey (C1)))) ⟨w5.heap.size, 1, none⟩ (.float .f64 (ofKey (D1)))) ⟨w5.heap.size, 2, none⟩ (.int .i64 (q1))) := (Below.setCell (Below.setCell (Below.setCell B (p := ⟨w5.heap.size, 0, none⟩) (by first | (show w.heap.size ≤ w5.heap.size; omega) | (have := B.size; show w.heap.size ≤ w5.heap.size; omega)) (.float .f64 (ofKey (C1)))) (p := ⟨w5.heap.size, 1, none⟩) (by first | (show w.heap.size ≤ w5.heap.size; omega) | (have := B.size; show w.heap.size ≤ w5.heap.size; omega)) (.float .f64 (ofKey (D1)))) (p := ⟨w5.heap.size, 2, none⟩) (by first | (show w.heap.size ≤ w5.heap.size; omega) | (have := B.size; show w.heap.size ≤ w5.heap.size; omega)) (.int .i64 (q1)))
    clear B
    obtain ⟨w11, hw11⟩ : ∃ w11, w11 = (World.setCell (World.setCell (World.setCell w10 ⟨w5.heap.size, 0, none⟩ (.float .f64 (ofKey (C1)))) ⟨w5.heap.size, 1, none⟩ (.float .f64 (ofKey (D1)))) ⟨w5.heap.size, 2, none⟩ (.int .i64 (q1))) := ⟨_, rfl⟩
    rw [← hw11]
    replace A0_0 := At.of A0_0 hw11
    replace A0_1 := At.of A0_1 hw11
    replace A1_0 := At.of A1_0 hw11
    replace A1_1 := At.of A1_1 hw11
    replace A2_0 := At.of A2_0 hw11
    replace A2_1 := At.of A2_1 hw11
    replace A2_2 := At.of A2_2 hw11
    replace A3_0 := At.of A3_0 hw11
    replace A3_1 := At.of A3_1 hw11
    replace A3_2 := At.of A3_2 hw11
    replace A4_0 := At.of A4_0 hw11
    replace A4_1 := At.of A4_1 hw11
    replace A4_2 := At.of A4_2 hw11
    replace A5_0 := At.of A5_0 hw11
    replace A5_1 := At.of A5_1 hw11
    have B := below_of B' hw11
    clear B' hw11
    have F0_0 := A0_0.1; have G0_0 := A0_0.2
    have F0_1 := A0_1.1; have G0_1 := A0_1.2
    have F1_0 := A1_0.1; have G1_0 := A1_0.2
    have F1_1 := A1_1.1; have G1_1 := A1_1.2
    have F2_0 := A2_0.1; have G2_0 := A2_0.2
    have F2_1 := A2_1.1; have G2_1 := A2_1.2
    have F2_2 := A2_2.1; have G2_2 := A2_2.2
    have F3_0 := A3_0.1; have G3_0 := A3_0.2
    have F3_1 := A3_1.1; have G3_1 := A3_1.2
    have F3_2 := A3_2.1; have G3_2 := A3_2.2
    have F4_0 := A4_0.1; have G4_0 := A4_0.2
    have F4_1 := A4_1.1; have G4_1 := A4_1.2
    have F4_2 := A4_2.1; have G4_2 := A4_2.2
    have F5_0 := A5_0.1; have G5_0 := A5_0.2
    have F5_1 := A5_1.1; have G5_1 := A5_1.2
    have Z0 := A0_0.lt
    have Z1 := A1_0.lt
    have Z2 := A2_0.lt
    have Z3 := A3_0.lt
    have Z4 := A4_0.lt
    have Z5 := A5_0.lt
    go_wp2_with fail
    refine (DS.out _).mono ?_
    rintro e w12 ⟨rfl, hbw12⟩
    clear F0_0 G0_0 F0_1 G0_1 F1_0 G1_0 F1_1 G1_1 F2_0 G2_0 F2_1 G2_1 F2_2 G2_2 F3_0 G3_0 F3_1 G3_1 F3_2 G3_2 F4_0 G4_0 F4_1 G4_1 F4_2 G4_2 F5_0 G5_0 F5_1 G5_1 Z0 Z1 Z2 Z3 Z4 Z5
    replace A0_0 := At.below (A0_0) hbw12
    replace A0_1 := At.below (A0_1) hbw12
    replace A1_0 := At.below (A1_0) hbw12
    replace A1_1 := At.below (A1_1) hbw12
    replace A2_0 := At.below (A2_0) hbw12
    replace A2_1 := At.below (A2_1) hbw12
    replace A2_2 := At.below (A2_2) hbw12
    replace A3_0 := At.below (A3_0) hbw12
    replace A3_1 := At.below (A3_1) hbw12
    replace A3_2 := At.below (A3_2) hbw12
    replace A4_0 := At.below (A4_0) hbw12
    replace A4_1 := At.below (A4_1) hbw12
    replace A4_2 := At.below (A4_2) hbw12
    replace A5_0 := At.below (A5_0) hbw12
    replace A5_1 := At.below (A5_1) hbw12
    replace B := below_step B B.size (hbw12)
    clear hbw12
    have F0_0 := A0_0.1; have G0_0 := A0_0.2
    have F0_1 := A0_1.1; have G0_1 := A0_1.2
    have F1_0 := A1_0.1; have G1_0 := A1_0.2
    have F1_1 := A1_1.1; have G1_1 := A1_1.2
    have F2_0 := A2_0.1; have G2_0 := A2_0.2
    have F2_1 := A2_1.1; have G2_1 := A2_1.2
    have F2_2 := A2_2.1; have G2_2 := A2_2.2
    have F3_0 := A3_0.1; have G3_0 := A3_0.2
    have F3_1 := A3_1.1; have G3_1 := A3_1.2
    have F3_2 := A3_2.1; have G3_2 := A3_2.2
    have F4_0 := A4_0.1; have G4_0 := A4_0.2
    have F4_1 := A4_1.1; have G4_1 := A4_1.2
    have F4_2 := A4_2.1; have G4_2 := A4_2.2
    have F5_0 := A5_0.1; have G5_0 := A5_0.2
    have F5_1 := A5_1.1; have G5_1 := A5_1.2
    have Z0 := A0_0.lt
    have Z1 := A1_0.lt
    have Z2 := A2_0.lt
    have Z3 := A3_0.lt
    have Z4 := A4_0.lt
    have Z5 := A5_0.lt
    by_cases h6 : 6 ≤ o
    · have s4 := s3 h6
      go_wp2_with fail
      go_ret
      exact ⟨rfl, Below.alloc B B.size _⟩
    · go_wp2_with fail
      go_ret
      exact ⟨rfl, Below.alloc B B.size _⟩

set_option maxRecDepth 10000 in
set_option maxHeartbeats 4000000 in
theorem truly_p_4 (a b c d u v op o : Int) (hb1 : -9223372036854775808 ≤ op) (hb2 : op ≤ 9223372036854775807) (hneg : ¬ op < 0) (ho : op.tmod 12 = o) (A Bh C D X Y A1 B1 C1 D1 S0 S1 pd qd p1 q1 sd : Int) (rA : Rg A) (rBh : Rg Bh) (rC : Rg C) (rD : Rg D) (rX : Rg X) (rY : Rg Y) (rA1 : Rg A1) (rB1 : Rg B1) (rC1 : Rg C1) (rD1 : Rg D1) (rS0 : Rg S0) (rS1 : Rg S1) (fX : Fi X) (fY : Fi Y) (fA : Fi A) (fB : Fi Bh) (hXY : X ≤ Y) (s1 : sd ≤ 4) (s2 : sd ≤ p1) (s3 : 6 ≤ o → sd ≤ q1)
    (hSX : ∀ w, Calls Try.prog 5 #[.int .u64 a, .int .u64 b] w fun e w' => e = .returned (.agg #[.float .f64 (ofKey (A)), .float .f64 (ofKey (Bh))]) ∧ Below w.heap.size w w')
    (hSZ : ∀ w, Calls Try.prog 5 #[.int .u64 c, .int .u64 d] w fun e w' => e = .returned (.agg #[.float .f64 (ofKey (C)), .float .f64 (ofKey (D))]) ∧ Below w.heap.size w w')
    (hDX : ∀ w, Calls Try.prog 6 #[.agg #[.float .f64 (ofKey (A)), .float .f64 (ofKey (Bh))], .int .i64 4] w fun e w' => e = .returned (.agg #[.float .f64 (ofKey (A)), .float .f64 (ofKey (Bh)), .int .i64 (pd)]) ∧ Below w.heap.size w w')
    (hDZ : ∀ w, Calls Try.prog 6 #[.agg #[.float .f64 (ofKey (C)), .float .f64 (ofKey (D))], .int .i64 4] w fun e w' => e = .returned (.agg #[.float .f64 (ofKey (C)), .float .f64 (ofKey (D)), .int .i64 (qd)]) ∧ Below w.heap.size w w')
    (hDO : ∀ w, Calls Try.prog 7 #[.int .i64 o, .agg #[.float .f64 (ofKey (A)), .float .f64 (ofKey (Bh)), .int .i64 (pd)], .agg #[.float .f64 (ofKey (C)), .float .f64 (ofKey (D)), .int .i64 (qd)]] w fun e w' => e = .returned (.agg #[.float .f64 (ofKey (X)), .float .f64 (ofKey (Y)), .int .i64 (4)]) ∧ Below w.heap.size w w')
    (hAP : ∀ w, Calls Try.prog 8 #[.int .i64 o, .agg #[.float .f64 (ofKey (A)), .float .f64 (ofKey (Bh))], .agg #[.float .f64 (ofKey (C)), .float .f64 (ofKey (D))]] w fun e w' => e = .returned (.agg #[.float .f64 (ofKey (X)), .float .f64 (ofKey (Y))]) ∧ Below w.heap.size w w')
    (hEX : ∀ w, Calls Try.prog 6 #[.agg #[.float .f64 (ofKey (A)), .float .f64 (ofKey (Bh))], .int .i64 u] w fun e w' => e = .returned (.agg #[.float .f64 (ofKey (A1)), .float .f64 (ofKey (B1)), .int .i64 (p1)]) ∧ Below w.heap.size w w')
    (hEZ : ∀ w, Calls Try.prog 6 #[.agg #[.float .f64 (ofKey (C)), .float .f64 (ofKey (D))], .int .i64 v] w fun e w' => e = .returned (.agg #[.float .f64 (ofKey (C1)), .float .f64 (ofKey (D1)), .int .i64 (q1)]) ∧ Below w.heap.size w w')
    (hDS : ∀ w, Calls Try.prog 7 #[.int .i64 o, .agg #[.float .f64 (ofKey (A1)), .float .f64 (ofKey (B1)), .int .i64 (p1)], .agg #[.float .f64 (ofKey (C1)), .float .f64 (ofKey (D1)), .int .i64 (q1)]] w fun e w' => e = .returned (.agg #[.float .f64 (ofKey (S0)), .float .f64 (ofKey (S1)), .int .i64 (sd)]) ∧ Below w.heap.size w w') (w : World) :
    Calls Try.prog 3 #[.int .u64 a, .int .u64 b, .int .u64 c, .int .u64 d, .int .i64 u, .int .i64 v, .int .i64 op] w fun e w' => e = .returned (.bool true) ∧ Below w.heap.size w w' := by
  have AL := Lib.hid alive_any
  have he := eqiv
  have SX := Lib.hid hSX
  have SZ := Lib.hid hSZ
  have DX := Lib.hid hDX
  have DZ := Lib.hid hDZ
  have DO := Lib.hid hDO
  have AP := Lib.hid hAP
  have EX := Lib.hid hEX
  have EZ := Lib.hid hEZ
  have DS := Lib.hid hDS
  clear hSX hSZ hDX hDZ hDO hAP hEX hEZ hDS
  obtain ⟨zX, mX, kX, jX, iX⟩ := run_sub_self (P := Try.prog) (ofKey X) (fin_ofKey fX.1 fX.2)
  obtain ⟨zY, mY, kY, jY, iY⟩ := run_sub_self (P := Try.prog) (ofKey Y) (fin_ofKey fY.1 fY.2)
  obtain ⟨zA, mA, kA, jA, iA⟩ := run_sub_self (P := Try.prog) (ofKey A) (fin_ofKey fA.1 fA.2)
  obtain ⟨zB, mB, kB, jB, iB⟩ := run_sub_self (P := Try.prog) (ofKey Bh) (fin_ofKey fB.1 fB.2)
  go_enter Try.func3, Try.ntmps3
  go_wp2_with fail
  refine (AL.out _).mono ?_
  rintro e w1 ⟨rfl, hbw1⟩
  have B := hbw1
  clear hbw1
  go_wp2_with fail
  refine (SX.out _).mono ?_
  rintro e w2 ⟨rfl, hbw2⟩
  replace B := below_step B B.size (hbw2)
  clear hbw2
  go_wp2_with fail
  refine (SZ.out _).mono ?_
  rintro e w3 ⟨rfl, hbw3⟩
  have nB : w.heap.size ≤ w2.heap.size := B.size
  have A0_0 : At (World.alloc w2 (.cells #[.float .f64 (ofKey (A)), .float .f64 (ofKey (Bh))] 27)) (w2.heap.size) 0 (.float .f64 (ofKey (A))) := ⟨by simp [go_sem], by simp [go_sem]⟩
  replace A0_0 := At.below A0_0 hbw3
  have A0_1 : At (World.alloc w2 (.cells #[.float .f64 (ofKey (A)), .float .f64 (ofKey (Bh))] 27)) (w2.heap.size) 1 (.float .f64 (ofKey (Bh))) := ⟨by simp [go_sem], by simp [go_sem]⟩
  replace A0_1 := At.below A0_1 hbw3
  replace B := below_step B B.size (below_alloc (hbw3))
  clear hbw3
  have F0_0 := A0_0.1; have G0_0 := A0_0.2
  have F0_1 := A0_1.1; have G0_1 := A0_1.2
  have Z0 := A0_0.lt
  go_wp2_with fail
  refine (DX.out _).mono ?_
  rintro e w4 ⟨rfl, hbw4⟩
  clear F0_0 G0_0 F0_1 G0_1 Z0
  have n1 : w2.heap.size < w3.heap.size := At.lt A0_1
  replace A0_0 := At.below (At.alloc (A0_0)) hbw4
  replace A0_1 := At.below (At.alloc (A0_1)) hbw4
  have A1_0 : At (World.alloc w3 (.cells #[.float .f64 (ofKey (C)), .float .f64 (ofKey (D))] 27)) (w3.heap.size) 0 (.float .f64 (ofKey (C))) := ⟨by simp [go_sem], by simp [go_sem]⟩
  replace A1_0 := At.below A1_0 hbw4
  have A1_1 : At (World.alloc w3 (.cells #[.float .f64 (ofKey (C)), .float .f64 (ofKey (D))] 27)) (w3.heap.size) 1 (.float .f64 (ofKey (D))) := ⟨by simp [go_sem], by simp [go_sem]⟩
  replace A1_1 := At.below A1_1 hbw4
  replace B := below_step B B.size (below_alloc (hbw4))
  clear hbw4
  have F0_0 := A0_0.1; have G0_0 := A0_0.2
  have F0_1 := A0_1.1; have G0_1 := A0_1.2
  have F1_0 := A1_0.1; have G1_0 := A1_0.2
  have F1_1 := A1_1.1; have G1_1 := A1_1.2
  have Z0 := A0_0.lt
  have Z1 := A1_0.lt
  go_wp2_with fail
  refine (DZ.out _).mono ?_
  rintro e w5 ⟨rfl, hbw5⟩
  clear F0_0 G0_0 F0_1 G0_1 F1_0 G1_0 F1_1 G1_1 Z0 Z1
  have n2 : w3.heap.size < w4.heap.size := At.lt A1_1
  replace A0_0 := At.below (At.alloc (A0_0)) hbw5
  replace A0_1 := At.below (At.alloc (A0_1)) hbw5
  replace A1_0 := At.below (At.alloc (A1_0)) hbw5
  replace A1_1 := At.below (At.alloc (A1_1)) hbw5
  have A2_0 : At (World.alloc w4 (.cells #[.float .f64 (ofKey (A)), .float .f64 (ofKey (Bh)), .int .i64 (pd)] 31)) (w4.heap.size) 0 (.float .f64 (ofKey (A))) := ⟨by simp [go_sem], by simp [go_sem]⟩
  replace A2_0 := At.below A2_0 hbw5
  have A2_1 : At (World.alloc w4 (.cells #[.float .f64 (ofKey (A)), .float .f64 (ofKey (Bh)), .int .i64 (pd)] 31)) (w4.heap.size) 1 (.float .f64 (ofKey (Bh))) := ⟨by simp [go_sem], by simp [go_sem]⟩
  replace A2_1 := At.below A2_1 hbw5
  have A2_2 : At (World.alloc w4 (.cells #[.float .f64 (ofKey (A)), .float .f64 (ofKey (Bh)), .int .i64 (pd)] 31)) (w4.heap.size) 2 (.int .i64 (pd)) := ⟨by simp [go_sem], by simp [go_sem]⟩
  replace A2_2 := At.below A2_2 hbw5
  replace B := below_step B B.size (below_alloc (hbw5))
  clear hbw5
  have F0_0 := A0_0.1; have G0_0 := A0_0.2
  have F0_1 := A0_1.1; have G0_1 := A0_1.2
  have F1_0 := A1_0.1; have G1_0 := A1_0.2
  have F1_1 := A1_1.1; have G1_1 := A1_1.2
  have F2_0 := A2_0.1; have G2_0 := A2_0.2
  have F2_1 := A2_1.1; have G2_1 := A2_1.2
  have F2_2 := A2_2.1; have G2_2 := A2_2.2
  have Z0 := A0_0.lt
  have Z1 := A1_0.lt
  have Z2 := A2_0.lt
  go_wp2_with fail
  refine (DO.out _).mono ?_
  rintro e w6 ⟨rfl, hbw6⟩
  clear F0_0 G0_0 F0_1 G0_1 F1_0 G1_0 F1_1 G1_1 F2_0 G2_0 F2_1 G2_1 F2_2 G2_2 Z0 Z1 Z2
  have n3 : w4.heap.size < w5.heap.size := At.lt A2_2
  replace A0_0 := At.below (At.alloc (A0_0)) hbw6
  replace A0_1 := At.below (At.alloc (A0_1)) hbw6
  replace A1_0 := At.below (At.alloc (A1_0)) hbw6
  replace A1_1 := At.below (At.alloc (A1_1)) hbw6
  replace A2_0 := At.below (At.alloc (A2_0)) hbw6
  replace A2_1 := At.below (At.alloc (A2_1)) hbw6
  replace A2_2 := At.below (At.alloc (A2_2)) hbw6
  have A3_0 : At (World.alloc w5 (.cells #[.float .f64 (ofKey (C)), .float .f64 (ofKey (D)), .int .i64 (qd)] 31)) (w5.heap.size) 0 (.float .f64 (ofKey (C))) := ⟨by simp [go_sem], by simp [go_sem]⟩
  replace A3_0 := At.below A3_0 hbw6
  have A3_1 : At (World.alloc w5 (.cells #[.float .f64 (ofKey (C)), .float .f64 (ofKey (D)), .int .i64 (qd)] 31)) (w5.heap.size) 1 (.float .f64 (ofKey (D))) := ⟨by simp [go_sem], by simp [go_sem]⟩
  replace A3_1 := At.below A3_1 hbw6
  have A3_2 : At (World.alloc w5 (.cells #[.float .f64 (ofKey (C)), .float .f64 (ofKey (D)), .int .i64 (qd)] 31)) (w5.heap.size) 2 (.int .i64 (qd)) := ⟨by simp [go_sem], by simp [go_sem]⟩
  replace A3_2 := At.below A3_2 hbw6
  replace B := below_step B B.size (below_alloc (hbw6))
  clear hbw6
  have F0_0 := A0_0.1; have G0_0 := A0_0.2
  have F0_1 := A0_1.1; have G0_1 := A0_1.2
  have F1_0 := A1_0.1; have G1_0 := A1_0.2
  have F1_1 := A1_1.1; have G1_1 := A1_1.2
  have F2_0 := A2_0.1; have G2_0 := A2_0.2
  have F2_1 := A2_1.1; have G2_1 := A2_1.2
  have F2_2 := A2_2.1; have G2_2 := A2_2.2
  have F3_0 := A3_0.1; have G3_0 := A3_0.2
  have F3_1 := A3_1.1; have G3_1 := A3_1.2
  have F3_2 := A3_2.1; have G3_2 := A3_2.2
  have Z0 := A0_0.lt
  have Z1 := A1_0.lt
  have Z2 := A2_0.lt
  have Z3 := A3_0.lt
  go_wp2_with fail
  refine (AP.out _).mono ?_
  rintro e w7 ⟨rfl, hbw7⟩
  clear F0_0 G0_0 F0_1 G0_1 F1_0 G1_0 F1_1 G1_1 F2_0 G2_0 F2_1 G2_1 F2_2 G2_2 F3_0 G3_0 F3_1 G3_1 F3_2 G3_2 Z0 Z1 Z2 Z3
  have n4 : w5.heap.size < w6.heap.size := At.lt A3_2
  replace A0_0 := At.below (At.alloc (A0_0)) hbw7
  replace A0_1 := At.below (At.alloc (A0_1)) hbw7
  replace A1_0 := At.below (At.alloc (A1_0)) hbw7
  replace A1_1 := At.below (At.alloc (A1_1)) hbw7
  replace A2_0 := At.below (At.alloc (A2_0)) hbw7
  replace A2_1 := At.below (At.alloc (A2_1)) hbw7
  replace A2_2 := At.below (At.alloc (A2_2)) hbw7
  replace A3_0 := At.below (At.alloc (A3_0)) hbw7
  replace A3_1 := At.below (At.alloc (A3_1)) hbw7
  replace A3_2 := At.below (At.alloc (A3_2)) hbw7
  have A4_0 : At (World.alloc w6 (.cells #[.float .f64 (ofKey (X)), .float .f64 (ofKey (Y)), .int .i64 (4)] 31)) (w6.heap.size) 0 (.float .f64 (ofKey (X))) := ⟨by simp [go_sem], by simp [go_sem]⟩
  replace A4_0 := At.below A4_0 hbw7
  have A4_1 : At (World.alloc w6 (.cells #[.float .f64 (ofKey (X)), .float .f64 (ofKey (Y)), .int .i64 (4)] 31)) (w6.heap.size) 1 (.float .f64 (ofKey (Y))) := ⟨by simp [go_sem], by simp [go_sem]⟩
  replace A4_1 := At.below A4_1 hbw7
  have A4_2 : At (World.alloc w6 (.cells #[.float .f64 (ofKey (X)), .float .f64 (ofKey (Y)), .int .i64 (4)] 31)) (w6.heap.size) 2 (.int .i64 (4)) := ⟨by simp [go_sem], by simp [go_sem]⟩
  replace A4_2 := At.below A4_2 hbw7
  replace B := below_step B B.size (below_alloc (hbw7))
  clear hbw7
  have F0_0 := A0_0.1; have G0_0 := A0_0.2
  have F0_1 := A0_1.1; have G0_1 := A0_1.2
  have F1_0 := A1_0.1; have G1_0 := A1_0.2
  have F1_1 := A1_1.1; have G1_1 := A1_1.2
  have F2_0 := A2_0.1; have G2_0 := A2_0.2
  have F2_1 := A2_1.1; have G2_1 := A2_1.2
  have F2_2 := A2_2.1; have G2_2 := A2_2.2
  have F3_0 := A3_0.1; have G3_0 := A3_0.2
  have F3_1 := A3_1.1; have G3_1 := A3_1.2
  have F3_2 := A3_2.1; have G3_2 := A3_2.2
  have F4_0 := A4_0.1; have G4_0 := A4_0.2
  have F4_1 := A4_1.1; have G4_1 := A4_1.2
  have F4_2 := A4_2.1; have G4_2 := A4_2.2
  have Z0 := A0_0.lt
  have Z1 := A1_0.lt
  have Z2 := A2_0.lt
  have Z3 := A3_0.lt
  have Z4 := A4_0.lt
  clear AL SX SZ DX DZ DO AP
  go_wp2_with fail
  refine (EX.out _).mono ?_
  rintro e w8 ⟨rfl, hbw8⟩
  clear F0_0 G0_0 F0_1 G0_1 F1_0 G1_0 F1_1 G1_1 F2_0 G2_0 F2_1 G2_1 F2_2 G2_2 F3_0 G3_0 F3_1 G3_1 F3_2 G3_2 F4_0 G4_0 F4_1 G4_1 F4_2 G4_2 Z0 Z1 Z2 Z3 Z4
  have n5 : w6.heap.size < w7.heap.size := At.lt A4_2
  replace A0_0 := At.below (At.alloc (A0_0)) hbw8
  replace A0_1 := At.below (At.alloc (A0_1)) hbw8
  replace A1_0 := At.below (At.alloc (A1_0)) hbw8
  replace A1_1 := At.below (At.alloc (A1_1)) hbw8
  replace A2_0 := At.below (At.alloc (A2_0)) hbw8
  replace A2_1 := At.below (At.alloc (A2_1)) hbw8
  replace A2_2 := At.below (At.alloc (A2_2)) hbw8
  replace A3_0 := At.below (At.alloc (A3_0)) hbw8
  replace A3_1 := At.below (At.alloc (A3_1)) hbw8
  replace A3_2 := At.below (At.alloc (A3_2)) hbw8
  replace A4_0 := At.below (At.alloc (A4_0)) hbw8
  replace A4_1 := At.below (At.alloc (A4_1)) hbw8
  replace A4_2 := At.below (At.alloc (A4_2)) hbw8
  have A5_0 : At (World.alloc w7 (.cells #[.float .f64 (ofKey (X)), .float .f64 (ofKey (Y))] 27)) (w7.heap.size) 0 (.float .f64 (ofKey (X))) := ⟨by simp [go_sem], by simp [go_sem]⟩
  replace A5_0 := At.below A5_0 hbw8
  have A5_1 : At (World.alloc w7 (.cells #[.float .f64 (ofKey (X)), .float .f64 (ofKey (Y))] 27)) (w7.heap.size) 1 (.float .f64 (ofKey (Y))) := ⟨by simp [go_sem], by simp [go_sem]⟩
  replace A5_1 := At.below A5_1 hbw8
  replace B := below_step B B.size (below_alloc (hbw8))
  clear hbw8
  have F0_0 := A0_0.1; have G0_0 := A0_0.2
  have F0_1 := A0_1.1; have G0_1 := A0_1.2
  have F1_0 := A1_0.1; have G1_0 := A1_0.2
  have F1_1 := A1_1.1; have G1_1 := A1_1.2
  have F2_0 := A2_0.1; have G2_0 := A2_0.2
  have F2_1 := A2_1.1; have G2_1 := A2_1.2
  have F2_2 := A2_2.1; have G2_2 := A2_2.2
  have F3_0 := A3_0.1; have G3_0 := A3_0.2
  have F3_1 := A3_1.1; have G3_1 := A3_1.2
  have F3_2 := A3_2.1; have G3_2 := A3_2.2
  have F4_0 := A4_0.1; have G4_0 := A4_0.2
  have F4_1 := A4_1.1; have G4_1 := A4_1.2
  have F4_2 := A4_2.1; have G4_2 := A4_2.2
  have F5_0 := A5_0.1; have G5_0 := A5_0.2
  have F5_1 := A5_1.1; have G5_1 := A5_1.2
  have Z0 := A0_0.lt
  have Z1 := A1_0.lt
  have Z2 := A2_0.lt
  have Z3 := A3_0.lt
  have Z4 := A4_0.lt
  have Z5 := A5_0.lt
  dsimp only
  iterate 4 go_step
  clear F0_0 G0_0 F0_1 G0_1 F1_0 G1_0 F1_1 G1_1 F2_0 G2_0 F2_1 G2_1 F2_2 G2_2 F3_0 G3_0 F3_1 G3_1 F3_2 G3_2 F4_0 G4_0 F4_1 G4_1 F4_2 G4_2 F5_0 G5_0 F5_1 G5_1 Z0 Z1 Z2 Z3 Z4 Z5
  replace A0_0 := At.set_blk (b' := w4.heap.size) (f' := 0) A0_0 (by omega) (.float .f64 (ofKey (A1)))
  replace A0_1 := At.set_blk (b' := w4.heap.size) (f' := 0) A0_1 (by omega) (.float .f64 (ofKey (A1)))
  replace A1_0 := At.set_blk (b' := w4.heap.size) (f' := 0) A1_0 (by omega) (.float .f64 (ofKey (A1)))
  replace A1_1 := At.set_blk (b' := w4.heap.size) (f' := 0) A1_1 (by omega) (.float .f64 (ofKey (A1)))
  replace A2_0 := At.set_same A2_0 (.float .f64 (ofKey (A1)))
  replace A2_1 := At.set_off (f' := 0) A2_1 (by decide) (.float .f64 (ofKey (A1)))
  replace A2_2 := At.set_off (f' := 0) A2_2 (by decide) (.float .f64 (ofKey (A1)))
  replace A3_0 := At.set_blk (b' := w4.heap.size) (f' := 0) A3_0 (by omega) (.float .f64 (ofKey (A1)))
  replace A3_1 := At.set_blk (b' := w4.heap.size) (f' := 0) A3_1 (by omega) (.float .f64 (ofKey (A1)))
  replace A3_2 := At.set_blk (b' := w4.heap.size) (f' := 0) A3_2 (by omega) (.float .f64 (ofKey (A1)))
  replace A4_0 := At.set_blk (b' := w4.heap.size) (f' := 0) A4_0 (by omega) (.float .f64 (ofKey (A1)))
  replace A4_1 := At.set_blk (b' := w4.heap.size) (f' := 0) A4_1 (by omega) (.float .f64 (ofKey (A1)))
  replace A4_2 := At.set_blk (b' := w4.heap.size) (f' := 0) A4_2 (by omega) (.float .f64 (ofKey (A1)))
  replace A5_0 := At.set_blk (b' := w4.heap.size) (f' := 0) A5_0 (by omega) (.float .f64 (ofKey (A1)))
  replace A5_1 := At.set_blk (b' := w4.heap.size) (f' := 0) A5_1 (by omega) (.float .f64 (ofKey (A1)))
  replace A0_0 := At.set_blk (b' := w4.heap.size) (f' := 1) A0_0 (by omega) (.float .f64 (ofKey (B1)))
  replace A0_1 := At.set_blk (b' := w4.heap.size) (f' := 1) A0_1 (by omega) (.float .f64 (ofKey (B1)))
  replace A1_0 := At.set_blk (b' := w4.heap.size) (f' := 1) A1_0 (by omega) (.float .f64 (ofKey (B1)))
  replace A1_1 := At.set_blk (b' := w4.heap.size) (f' := 1) A1_1 (by omega) (.float .f64 (ofKey (B1)))
  replace A2_0 := At.set_off (f' := 1) A2_0 (by decide) (.float .f64 (ofKey (B1)))
  replace A2_1 := At.set_same A2_1 (.float .f64 (ofKey (B1)))
  replace A2_2 := At.set_off (f' := 1) A2_2 (by decide) (.float .f64 (ofKey (B1)))
  replace A3_0 := At.set_blk (b' := w4.heap.size) (f' := 1) A3_0 (by omega) (.float .f64 (ofKey (B1)))
  replace A3_1 := At.set_blk (b' := w4.heap.size) (f' := 1) A3_1 (by omega) (.float .f64 (ofKey (B1)))
  replace A3_2 := At.set_blk (b' := w4.heap.size) (f' := 1) A3_2 (by omega) (.float .f64 (ofKey (B1)))
  replace A4_0 := At.set_blk (b' := w4.heap.size) (f' := 1) A4_0 (by omega) (.float .f64 (ofKey (B1)))
  replace A4_1 := At.set_blk (b' := w4.heap.size) (f' := 1) A4_1 (by omega) (.float .f64 (ofKey (B1)))
  replace A4_2 := At.set_blk (b' := w4.heap.size) (f' := 1) A4_2 (by omega) (.float .f64 (ofKey (B1)))
  replace A5_0 := At.set_blk (b' := w4.heap.size) (f' := 1) A5_0 (by omega) (.float .f64 (ofKey (B1)))
  replace A5_1 := At.set_blk (b' := w4.heap.size) (f' := 1) A5_1 (by omega) (.float .f64 (ofKey (B1)))
  replace A0_0 := At.set_blk (b' := w4.heap.size) (f' := 2) A0_0 (by omega) (.int .i64 (p1))
  replace A0_1 := At.set_blk (b' := w4.heap.size) (f' := 2) A0_1 (by omega) (.int .i64 (p1))
  replace A1_0 := At.set_blk (b' := w4.heap.size) (f' := 2) A1_0 (by omega) (.int .i64 (p1))
  replace A1_1 := At.set_blk (b' := w4.heap.size) (f' := 2) A1_1 (by omega) (.int .i64 (p1))
  replace A2_0 := At.set_off (f' := 2) A2_0 (by decide) (.int .i64 (p1))
  replace A2_1 := At.set_off (f' := 2) A2_1 (by decide) (.int .i64 (p1))
  replace A2_2 := At.set_same A2_2 (.int .i64 (p1))
  replace A3_0 := At.set_blk (b' := w4.heap.size) (f' := 2) A3_0 (by omega) (.int .i64 (p1))
  replace A3_1 := At.set_blk (b' := w4.heap.size) (f' := 2) A3_1 (by omega) (.int .i64 (p1))
  replace A3_2 := At.set_blk (b' := w4.heap.size) (f' := 2) A3_2 (by omega) (.int .i64 (p1))
  replace A4_0 := At.set_blk (b' := w4.heap.size) (f' := 2) A4_0 (by omega) (.int .i64 (p1))
  replace A4_1 := At.set_blk (b' := w4.heap.size) (f' := 2) A4_1 (by omega) (.int .i64 (p1))
  replace A4_2 := At.set_blk (b' := w4.heap.size) (f' := 2) A4_2 (by omega) (.int .i64 (p1))
  replace A5_0 := At.set_blk (b' := w4.heap.size) (f' := 2) A5_0 (by omega) (.int .i64 (p1))
  replace A5_1 := At.set_blk (b' := w4.heap.size) (f' := 2) A5_1 (by omega) (.int .i64 (p1))
  have B' : Below w.heap.size w (World.setCell (World.setCell (World.setCell w8 ⟨w4.heap.size, 0, none⟩ (.float .f64 (ofKey (A1)))) ⟨w4.heap.size, 1, none⟩ (.float .f64 (ofKey (B1)))) ⟨w4.heap.size, 2, none⟩ (.int .i64 (p1))) := (Below.setCell (Below.setCell (Below.setCell B (p := ⟨w4.heap.size, 0, none⟩) (by first | (show w.heap.size ≤ w4.heap.size; omega) | (have := B.size; show w.heap.size ≤ w4.heap.size; omega)) (.float .f64 (ofKey (A1)))) (p := ⟨w4.heap.size, 1, none⟩) (by first | (show w.heap.size ≤ w4.heap.size; omega) | (have := B.size; show w.heap.size ≤ w4.heap.size; omega)) (.float .f64 (ofKey (B1)))) (p := ⟨w4.heap.size, 2, none⟩) (by first | (show w.heap.size ≤ w4.heap.size; omega) | (have := B.size; show w.heap.size ≤ w4.heap.size; omega)) (.int .i64 (p1)))
  clear B
  obtain ⟨w9, hw9⟩ : ∃ w9, w9 = (World.setCell (World.setCell (World.setCell w8 ⟨w4.heap.size, 0, none⟩ (.float .f64 (ofKey (A1)))) ⟨w4.heap.size, 1, none⟩ (.float .f64 (ofKey (B1)))) ⟨w4.heap.size, 2, none⟩ (.int .i64 (p1))) := ⟨_, rfl⟩
  rw [← hw9]
  replace A0_0 := At.of A0_0 hw9
  replace A0_1 := At.of A0_1 hw9
  replace A1_0 := At.of A1_0 hw9
  replace A1_1 := At.of A1_1 hw9
  replace A2_0 := At.of A2_0 hw9
  replace A2_1 := At.of A2_1 hw9
  replace A2_2 := At.of A2_2 hw9
  replace A3_0 := At.of A3_0 hw9
  replace A3_1 := At.of A3_1 hw9
  replace A3_2 := At.of A3_2 hw9
  replace A4_0 := At.of A4_0 hw9
  replace A4_1 := At.of A4_1 hw9
  replace A4_2 := At.of A4_2 hw9
  replace A5_0 := At.of A5_0 hw9
  replace A5_1 := At.of A5_1 hw9
  have B := below_of B' hw9
  clear B' hw9
  have F0_0 := A0_0.1; have G0_0 := A0_0.2
  have F0_1 := A0_1.1; have G0_1 := A0_1.2
  have F1_0 := A1_0.1; have G1_0 := A1_0.2
  have F1_1 := A1_1.1; have G1_1 := A1_1.2
  have F2_0 := A2_0.1; have G2_0 := A2_0.2
  have F2_1 := A2_1.1; have G2_1 := A2_1.2
  have F2_2 := A2_2.1; have G2_2 := A2_2.2
  have F3_0 := A3_0.1; have G3_0 := A3_0.2
  have F3_1 := A3_1.1; have G3_1 := A3_1.2
  have F3_2 := A3_2.1; have G3_2 := A3_2.2
  have F4_0 := A4_0.1; have G4_0 := A4_0.2
  have F4_1 := A4_1.1; have G4_1 := A4_1.2
  have F4_2 := A4_2.1; have G4_2 := A4_2.2
  have F5_0 := A5_0.1; have G5_0 := A5_0.2
  have F5_1 := A5_1.1; have G5_1 := A5_1.2
  have Z0 := A0_0.lt
  have Z1 := A1_0.lt
  have Z2 := A2_0.lt
  have Z3 := A3_0.lt
  have Z4 := A4_0.lt
  have Z5 := A5_0.lt
  go_wp2_with fail
  refine (EZ.out _).mono ?_
  rintro e w10 ⟨rfl, hbw10⟩
  clear F0_0 G0_0 F0_1 G0_1 F1_0 G1_0 F1_1 G1_1 F2_0 G2_0 F2_1 G2_1 F2_2 G2_2 F3_0 G3_0 F3_1 G3_1 F3_2 G3_2 F4_0 G4_0 F4_1 G4_1 F4_2 G4_2 F5_0 G5_0 F5_1 G5_1 Z0 Z1 Z2 Z3 Z4 Z5
  replace A0_0 := At.below (A0_0) hbw10
  replace A0_1 := At.below (A0_1) hbw10
  replace A1_0 := At.below (A1_0) hbw10
  replace A1_1 := At.below (A1_1) hbw10
  replace A2_0 := At.below (A2_0) hbw10
  replace A2_1 := At.below (A2_1) hbw10
  replace A2_2 := At.below (A2_2) hbw10
  replace A3_0 := At.below (A3_0) hbw10
  replace A3_1 := At.below (A3_1) hbw10
  replace A3_2 := At.below (A3_2) hbw10
  replace A4_0 := At.below (A4_0) hbw10
  replace A4_1 := At.below (A4_1) hbw10
  replace A4_2 := At.below (A4_2) hbw10
  replace A5_0 := At.below (A5_0) hbw10
  replace A5_1 := At.below (A5_1) hbw10
  replace B := below_step B B.size (hbw10)
  clear hbw10
  have F0_0 := A0_0.1; have G0_0 := A0_0.2
  have F0_1 := A0_1.1; have G0_1 := A0_1.2
  have F1_0 := A1_0.1; have G1_0 := A1_0.2
  have F1_1 := A1_1.1; have G1_1 := A1_1.2
  have F2_0 := A2_0.1; have G2_0 := A2_0.2
  have F2_1 := A2_1.1; have G2_1 := A2_1.2
  have F2_2 := A2_2.1; have G2_2 := A2_2.2
  have F3_0 := A3_0.1; have G3_0 := A3_0.2
  have F3_1 := A3_1.1; have G3_1 := A3_1.2
  have F3_2 := A3_2.1; have G3_2 := A3_2.2
  have F4_0 := A4_0.1; have G4_0 := A4_0.2
  have F4_1 := A4_1.1; have G4_1 := A4_1.2
  have F4_2 := A4_2.1; have G4_2 := A4_2.2
  have F5_0 := A5_0.1; have G5_0 := A5_0.2
  have F5_1 := A5_1.1; have G5_1 := A5_1.2
  have Z0 := A0_0.lt
  have Z1 := A1_0.lt
  have Z2 := A2_0.lt
  have Z3 := A3_0.lt
  have Z4 := A4_0.lt
  have Z5 := A5_0.lt
  dsimp only
  iterate 4 go_step
  clear F0_0 G0_0 F0_1 G0_1 F1_0 G1_0 F1_1 G1_1 F2_0 G2_0 F2_1 G2_1 F2_2 G2_2 F3_0 G3_0 F3_1 G3_1 F3_2 G3_2 F4_0 G4_0 F4_1 G4_1 F4_2 G4_2 F5_0 G5_0 F5_1 G5_1 Z0 Z1 Z2 Z3 Z4 Z5
  replace A0_0 := At.set_blk (b' := w5.heap.size) (f' := 0) A0_0 (by omega) (.float .f64 (ofKey (C1)))
  replace A0_1 := At.set_blk (b' := w5.heap.size) (f' := 0) A0_1 (by omega) (.float .f64 (ofKey (C1)))
  replace A1_0 := At.set_blk (b' := w5.heap.size) (f' := 0) A1_0 (by omega) (.float .f64 (ofKey (C1)))
  replace A1_1 := At.set_blk (b' := w5.heap.size) (f' := 0) A1_1 (by omega) (.float .f64 (ofKey (C1)))
  replace A2_0 := At.set_blk (b' := w5.heap.size) (f' := 0) A2_0 (by omega) (.float .f64 (ofKey (C1)))
  replace A2_1 := At.set_blk (b' := w5.heap.size) (f' := 0) A2_1 (by omega) (.float .f64 (ofKey (C1)))
  replace A2_2 := At.set_blk (b' := w5.heap.size) (f' := 0) A2_2 (by omega) (.float .f64 (ofKey (C1)))
  replace A3_0 := At.set_same A3_0 (.float .f64 (ofKey (C1)))
  replace A3_1 := At.set_off (f' := 0) A3_1 (by decide) (.float .f64 (ofKey (C1)))
  replace A3_2 := At.set_off (f' := 0) A3_2 (by decide) (.float .f64 (ofKey (C1)))
  replace A4_0 := At.set_blk (b' := w5.heap.size) (f' := 0) A4_0 (by omega) (.float .f64 (ofKey (C1)))
  replace A4_1 := At.set_blk (b' := w5.heap.size) (f' := 0) A4_1 (by omega) (.float .f64 (ofKey (C1)))
  replace A4_2 := At.set_blk (b' := w5.heap.size) (f' := 0) A4_2 (by omega) (.float .f64 (ofKey (C1)))
  replace A5_0 := At.set_blk (b' := w5.heap.size) (f' := 0) A5_0 (by omega) (.float .f64 (ofKey (C1)))
  replace A5_1 := At.set_blk (b' := w5.heap.size) (f' := 0) A5_1 (by omega) (.float .f64 (ofKey (C1)))
  replace A0_0 := At.set_blk (b' := w5.heap.size) (f' := 1) A0_0 (by omega) (.float .f64 (ofKey (D1)))
  replace A0_1 := At.set_blk (b' := w5.heap.size) (f' := 1) A0_1 (by omega) (.float .f64 (ofKey (D1)))
  replace A1_0 := At.set_blk (b' := w5.heap.size) (f' := 1) A1_0 (by omega) (.float .f64 (ofKey (D1)))
  replace A1_1 := At.set_blk (b' := w5.heap.size) (f' := 1) A1_1 (by omega) (.float .f64 (ofKey (D1)))
  replace A2_0 := At.set_blk (b' := w5.heap.size) (f' := 1) A2_0 (by omega) (.float .f64 (ofKey (D1)))
  replace A2_1 := At.set_blk (b' := w5.heap.size) (f' := 1) A2_1 (by omega) (.float .f64 (ofKey (D1)))
  replace A2_2 := At.set_blk (b' := w5.heap.size) (f' := 1) A2_2 (by omega) (.float .f64 (ofKey (D1)))
  replace A3_0 := At.set_off (f' := 1) A3_0 (by decide) (.float .f64 (ofKey (D1)))
  replace A3_1 := At.set_same A3_1 (.float .f64 (ofKey (D1)))
  replace A3_2 := At.set_off (f' := 1) A3_2 (by decide) (.float .f64 (ofKey (D1)))
  replace A4_0 := At.set_blk (b' := w5.heap.size) (f' := 1) A4_0 (by omega) (.float .f64 (ofKey (D1)))
  replace A4_1 := At.set_blk (b' := w5.heap.size) (f' := 1) A4_1 (by omega) (.float .f64 (ofKey (D1)))
  replace A4_2 := At.set_blk (b' := w5.heap.size) (f' := 1) A4_2 (by omega) (.float .f64 (ofKey (D1)))
  replace A5_0 := At.set_blk (b' := w5.heap.size) (f' := 1) A5_0 (by omega) (.float .f64 (ofKey (D1)))
  replace A5_1 := At.set_blk (b' := w5.heap.size) (f' := 1) A5_1 (by omega) (.float .f64 (ofKey (D1)))
  replace A0_0 := At.set_blk (b' := w5.heap.size) (f' := 2) A0_0 (by omega) (.int .i64 (q1))
  replace A0_1 := At.set_blk (b' := w5.heap.size) (f' := 2) A0_1 (by omega) (.int .i64 (q1))
  replace A1_0 := At.set_blk (b' := w5.heap.size) (f' := 2) A1_0 (by omega) (.int .i64 (q1))
  replace A1_1 := At.set_blk (b' := w5.heap.size) (f' := 2) A1_1 (by omega) (.int .i64 (q1))
  replace A2_0 := At.set_blk (b' := w5.heap.size) (f' := 2) A2_0 (by omega) (.int .i64 (q1))
  replace A2_1 := At.set_blk (b' := w5.heap.size) (f' := 2) A2_1 (by omega) (.int .i64 (q1))
  replace A2_2 := At.set_blk (b' := w5.heap.size) (f' := 2) A2_2 (by omega) (.int .i64 (q1))
  replace A3_0 := At.set_off (f' := 2) A3_0 (by decide) (.int .i64 (q1))
  replace A3_1 := At.set_off (f' := 2) A3_1 (by decide) (.int .i64 (q1))
  replace A3_2 := At.set_same A3_2 (.int .i64 (q1))
  replace A4_0 := At.set_blk (b' := w5.heap.size) (f' := 2) A4_0 (by omega) (.int .i64 (q1))
  replace A4_1 := At.set_blk (b' := w5.heap.size) (f' := 2) A4_1 (by omega) (.int .i64 (q1))
  replace A4_2 := At.set_blk (b' := w5.heap.size) (f' := 2) A4_2 (by omega) (.int .i64 (q1))
  replace A5_0 := At.set_blk (b' := w5.heap.size) (f' := 2) A5_0 (by omega) (.int .i64 (q1))
  replace A5_1 := At.set_blk (b' := w5.heap.size) (f' := 2) A5_1 (by omega) (.int .i64 (q1))
  have B' : Below w.heap.size w (World.setCell (World.setCell (World.setCell w10 ⟨w5.heap.size, 0, none⟩ (.float .f64 (ofKey (C1)))) ⟨w5.heap.size, 1, none⟩ (.float .f64 (ofKey (D1)))) ⟨w5.heap.size, 2, none⟩ (.int .i64 (q1))) := (Below.setCell (Below.setCell (Below.setCell B (p := ⟨w5.heap.size, 0, none⟩) (by first | (show w.heap.size ≤ w5.heap.size; omega) | (have := B.size; show w.heap.size ≤ w5.heap.size; omega)) (.float .f64 (ofKey (C1)))) (p := ⟨w5.heap.size, 1, none⟩) (by first | (show w.heap.size ≤ w5.heap.size; omega) | (have := B.size; show w.heap.size ≤ w5.heap.size; omega)) (.float .f64 (ofKey (D1)))) (p := ⟨w5.heap.size, 2, none⟩) (by first | (show w.heap.size ≤ w5.heap.size; omega) | (have := B.size; show w.heap.size ≤ w5.heap.size; omega)) (.int .i64 (q1)))
  clear B
  obtain ⟨w11, hw11⟩ : ∃ w11, w11 = (World.setCell (World.setCell (World.setCell w10 ⟨w5.heap.size, 0, none⟩ (.float .f64 (ofKey (C1)))) ⟨w5.heap.size, 1, none⟩ (.float .f64 (ofKey (D1)))) ⟨w5.heap.size, 2, none⟩ (.int .i64 (q1))) := ⟨_, rfl⟩
  rw [← hw11]
  replace A0_0 := At.of A0_0 hw11
  replace A0_1 := At.of A0_1 hw11
  replace A1_0 := At.of A1_0 hw11
  replace A1_1 := At.of A1_1 hw11
  replace A2_0 := At.of A2_0 hw11
  replace A2_1 := At.of A2_1 hw11
  replace A2_2 := At.of A2_2 hw11
  replace A3_0 := At.of A3_0 hw11
  replace A3_1 := At.of A3_1 hw11
  replace A3_2 := At.of A3_2 hw11
  replace A4_0 := At.of A4_0 hw11
  replace A4_1 := At.of A4_1 hw11
  replace A4_2 := At.of A4_2 hw11
  replace A5_0 := At.of A5_0 hw11
  replace A5_1 := At.of A5_1 hw11
  have B := below_of B' hw11
  clear B' hw11
  have F0_0 := A0_0.1; have G0_0 := A0_0.2
  have F0_1 := A0_1.1; have G0_1 := A0_1.2
  have F1_0 := A1_0.1; have G1_0 := A1_0.2
  have F1_1 := A1_1.1; have G1_1 := A1_1.2
  have F2_0 := A2_0.1; have G2_0 := A2_0.2
  have F2_1 := A2_1.1; have G2_1 := A2_1.2
  have F2_2 := A2_2.1; have G2_2 := A2_2.2
  have F3_0 := A3_0.1; have G3_0 := A3_0.2
  have F3_1 := A3_1.1; have G3_1 := A3_1.2
  have F3_2 := A3_2.1; have G3_2 := A3_2.2
  have F4_0 := A4_0.1; have G4_0 := A4_0.2
  have F4_1 := A4_1.1; have G4_1 := A4_1.2
  have F4_2 := A4_2.1; have G4_2 := A4_2.2
  have F5_0 := A5_0.1; have G5_0 := A5_0.2
  have F5_1 := A5_1.1; have G5_1 := A5_1.2
  have Z0 := A0_0.lt
  have Z1 := A1_0.lt
  have Z2 := A2_0.lt
  have Z3 := A3_0.lt
  have Z4 := A4_0.lt
  have Z5 := A5_0.lt
  go_wp2_with fail
  refine (DS.out _).mono ?_
  rintro e w12 ⟨rfl, hbw12⟩
  clear F0_0 G0_0 F0_1 G0_1 F1_0 G1_0 F1_1 G1_1 F2_0 G2_0 F2_1 G2_1 F2_2 G2_2 F3_0 G3_0 F3_1 G3_1 F3_2 G3_2 F4_0 G4_0 F4_1 G4_1 F4_2 G4_2 F5_0 G5_0 F5_1 G5_1 Z0 Z1 Z2 Z3 Z4 Z5
  replace A0_0 := At.below (A0_0) hbw12
  replace A0_1 := At.below (A0_1) hbw12
  replace A1_0 := At.below (A1_0) hbw12
  replace A1_1 := At.below (A1_1) hbw12
  replace A2_0 := At.below (A2_0) hbw12
  replace A2_1 := At.below (A2_1) hbw12
  replace A2_2 := At.below (A2_2) hbw12
  replace A3_0 := At.below (A3_0) hbw12
  replace A3_1 := At.below (A3_1) hbw12
  replace A3_2 := At.below (A3_2) hbw12
  replace A4_0 := At.below (A4_0) hbw12
  replace A4_1 := At.below (A4_1) hbw12
  replace A4_2 := At.below (A4_2) hbw12
  replace A5_0 := At.below (A5_0) hbw12
  replace A5_1 := At.below (A5_1) hbw12
  replace B := below_step B B.size (hbw12)
  clear hbw12
  have F0_0 := A0_0.1; have G0_0 := A0_0.2
  have F0_1 := A0_1.1; have G0_1 := A0_1.2
  have F1_0 := A1_0.1; have G1_0 := A1_0.2
  have F1_1 := A1_1.1; have G1_1 := A1_1.2
  have F2_0 := A2_0.1; have G2_0 := A2_0.2
  have F2_1 := A2_1.1; have G2_1 := A2_1.2
  have F2_2 := A2_2.1; have G2_2 := A2_2.2
  have F3_0 := A3_0.1; have G3_0 := A3_0.2
  have F3_1 := A3_1.1; have G3_1 := A3_1.2
  have F3_2 := A3_2.1; have G3_2 := A3_2.2
  have F4_0 := A4_0.1; have G4_0 := A4_0.2
  have F4_1 := A4_1.1; have G4_1 := A4_1.2
  have F4_2 := A4_2.1; have G4_2 := A4_2.2
  have F5_0 := A5_0.1; have G5_0 := A5_0.2
  have F5_1 := A5_1.1; have G5_1 := A5_1.2
  have Z0 := A0_0.lt
  have Z1 := A1_0.lt
  have Z2 := A2_0.lt
  have Z3 := A3_0.lt
  have Z4 := A4_0.lt
  have Z5 := A5_0.lt
  by_cases h6 : 6 ≤ o
  · have s4 := s3 h6
    go_wp2_with fail
    go_ret
    exact ⟨rfl, Below.alloc B B.size _⟩
  · go_wp2_with fail
    go_ret
    exact ⟨rfl, Below.alloc B B.size _⟩

set_option maxRecDepth 10000 in
set_option maxHeartbeats 4000000 in
theorem truly_p_r (a b c d u v op o : Int) (hb1 : -9223372036854775808 ≤ op) (hb2 : op ≤ 9223372036854775807) (hneg : ¬ op < 0) (ho : op.tmod 12 = o) (A Bh C D X Y A1 B1 C1 D1 S0 S1 pd qd rd p1 q1 sd : Int) (rA : Rg A) (rBh : Rg Bh) (rC : Rg C) (rD : Rg D) (rX : Rg X) (rY : Rg Y) (rA1 : Rg A1) (rB1 : Rg B1) (rC1 : Rg C1) (rD1 : Rg D1) (rS0 : Rg S0) (rS1 : Rg S1) (r4 : ¬ rd = 4) (r1 : 1 ≤ rd) (r2 : rd ≤ 4) (hXY : 2 ≤ rd → X ≤ Y) (s1 : sd ≤ rd) (s2 : sd ≤ p1) (s3 : 6 ≤ o → sd ≤ q1)
    (hSX : ∀ w, Calls Try.prog 5 #[.int .u64 a, .int .u64 b] w fun e w' => e = .returned (.agg #[.float .f64 (ofKey (A)), .float .f64 (ofKey (Bh))]) ∧ Below w.heap.size w w')
    (hSZ : ∀ w, Calls Try.prog 5 #[.int .u64 c, .int .u64 d] w fun e w' => e = .returned (.agg #[.float .f64 (ofKey (C)), .float .f64 (ofKey (D))]) ∧ Below w.heap.size w w')
    (hDX : ∀ w, Calls Try.prog 6 #[.agg #[.float .f64 (ofKey (A)), .float .f64 (ofKey (Bh))], .int .i64 4] w fun e w' => e = .returned (.agg #[.float .f64 (ofKey (A)), .float .f64 (ofKey (Bh)), .int .i64 (pd)]) ∧ Below w.heap.size w w')
    (hDZ : ∀ w, Calls Try.prog 6 #[.agg #[.float .f64 (ofKey (C)), .float .f64 (ofKey (D))], .int .i64 4] w fun e w' => e = .returned (.agg #[.float .f64 (ofKey (C)), .float .f64 (ofKey (D)), .int .i64 (qd)]) ∧ Below w.heap.size w w')
    (hDO : ∀ w, Calls Try.prog 7 #[.int .i64 o, .agg #[.float .f64 (ofKey (A)), .float .f64 (ofKey (Bh)), .int .i64 (pd)], .agg #[.float .f64 (ofKey (C)), .float .f64 (ofKey (D)), .int .i64 (qd)]] w fun e w' => e = .returned (.agg #[.float .f64 (ofKey (X)), .float .f64 (ofKey (Y)), .int .i64 (rd)]) ∧ Below w.heap.size w w')
    (hAP : ∀ w, Calls Try.prog 8 #[.int .i64 o, .agg #[.float .f64 (ofKey (A)), .float .f64 (ofKey (Bh))], .agg #[.float .f64 (ofKey (C)), .float .f64 (ofKey (D))]] w fun e w' => e = .returned (.agg #[.float .f64 (ofKey (X)), .float .f64 (ofKey (Y))]) ∧ Below w.heap.size w w')
    (hEX : ∀ w, Calls Try.prog 6 #[.agg #[.float .f64 (ofKey (A)), .float .f64 (ofKey (Bh))], .int .i64 u] w fun e w' => e = .returned (.agg #[.float .f64 (ofKey (A1)), .float .f64 (ofKey (B1)), .int .i64 (p1)]) ∧ Below w.heap.size w w')
    (hEZ : ∀ w, Calls Try.prog 6 #[.agg #[.float .f64 (ofKey (C)), .float .f64 (ofKey (D))], .int .i64 v] w fun e w' => e = .returned (.agg #[.float .f64 (ofKey (C1)), .float .f64 (ofKey (D1)), .int .i64 (q1)]) ∧ Below w.heap.size w w')
    (hDS : ∀ w, Calls Try.prog 7 #[.int .i64 o, .agg #[.float .f64 (ofKey (A1)), .float .f64 (ofKey (B1)), .int .i64 (p1)], .agg #[.float .f64 (ofKey (C1)), .float .f64 (ofKey (D1)), .int .i64 (q1)]] w fun e w' => e = .returned (.agg #[.float .f64 (ofKey (S0)), .float .f64 (ofKey (S1)), .int .i64 (sd)]) ∧ Below w.heap.size w w') (w : World) :
    Calls Try.prog 3 #[.int .u64 a, .int .u64 b, .int .u64 c, .int .u64 d, .int .i64 u, .int .i64 v, .int .i64 op] w fun e w' => e = .returned (.bool true) ∧ Below w.heap.size w w' := by
  have AL := Lib.hid alive_any
  have he := eqiv
  have SX := Lib.hid hSX
  have SZ := Lib.hid hSZ
  have DX := Lib.hid hDX
  have DZ := Lib.hid hDZ
  have DO := Lib.hid hDO
  have AP := Lib.hid hAP
  have EX := Lib.hid hEX
  have EZ := Lib.hid hEZ
  have DS := Lib.hid hDS
  clear hSX hSZ hDX hDZ hDO hAP hEX hEZ hDS
  have bf : (rd == 4) = false := by rw [beq_eq_false_iff_ne]; exact r4
  go_enter Try.func3, Try.ntmps3
  go_wp2_with fail
  refine (AL.out _).mono ?_
  rintro e w1 ⟨rfl, hbw1⟩
  have B := hbw1
  clear hbw1
  go_wp2_with fail
  refine (SX.out _).mono ?_
  rintro e w2 ⟨rfl, hbw2⟩
  replace B := below_step B B.size (hbw2)
  clear hbw2
  go_wp2_with fail
  refine (SZ.out _).mono ?_
  rintro e w3 ⟨rfl, hbw3⟩
  have nB : w.heap.size ≤ w2.heap.size := B.size
  have A0_0 : At (World.alloc w2 (.cells #[.float .f64 (ofKey (A)), .float .f64 (ofKey (Bh))] 27)) (w2.heap.size) 0 (.float .f64 (ofKey (A))) := ⟨by simp [go_sem], by simp [go_sem]⟩
  replace A0_0 := At.below A0_0 hbw3
  have A0_1 : At (World.alloc w2 (.cells #[.float .f64 (ofKey (A)), .float .f64 (ofKey (Bh))] 27)) (w2.heap.size) 1 (.float .f64 (ofKey (Bh))) := ⟨by simp [go_sem], by simp [go_sem]⟩
  replace A0_1 := At.below A0_1 hbw3
  replace B := below_step B B.size (below_alloc (hbw3))
  clear hbw3
  have F0_0 := A0_0.1; have G0_0 := A0_0.2
  have F0_1 := A0_1.1; have G0_1 := A0_1.2
  have Z0 := A0_0.lt
  go_wp2_with fail
  refine (DX.out _).mono ?_
  rintro e w4 ⟨rfl, hbw4⟩
  clear F0_0 G0_0 F0_1 G0_1 Z0
  have n1 : w2.heap.size < w3.heap.size := At.lt A0_1
  replace A0_0 := At.below (At.alloc (A0_0)) hbw4
  replace A0_1 := At.below (At.alloc (A0_1)) hbw4
  have A1_0 : At (World.alloc w3 (.cells #[.float .f64 (ofKey (C)), .float .f64 (ofKey (D))] 27)) (w3.heap.size) 0 (.float .f64 (ofKey (C))) := ⟨by simp [go_sem], by simp [go_sem]⟩
  replace A1_0 := At.below A1_0 hbw4
  have A1_1 : At (World.alloc w3 (.cells #[.float .f64 (ofKey (C)), .float .f64 (ofKey (D))] 27)) (w3.heap.size) 1 (.float .f64 (ofKey (D))) := ⟨by simp [go_sem], by simp [go_sem]⟩
  replace A1_1 := At.below A1_1 hbw4
  replace B := below_step B B.size (below_alloc (hbw4))
  clear hbw4
  have F0_0 := A0_0.1; have G0_0 := A0_0.2
  have F0_1 := A0_1.1; have G0_1 := A0_1.2
  have F1_0 := A1_0.1; have G1_0 := A1_0.2
  have F1_1 := A1_1.1; have G1_1 := A1_1.2
  have Z0 := A0_0.lt
  have Z1 := A1_0.lt
  go_wp2_with fail
  refine (DZ.out _).mono ?_
  rintro e w5 ⟨rfl, hbw5⟩
  clear F0_0 G0_0 F0_1 G0_1 F1_0 G1_0 F1_1 G1_1 Z0 Z1
  have n2 : w3.heap.size < w4.heap.size := At.lt A1_1
  replace A0_0 := At.below (At.alloc (A0_0)) hbw5
  replace A0_1 := At.below (At.alloc (A0_1)) hbw5
  replace A1_0 := At.below (At.alloc (A1_0)) hbw5
  replace A1_1 := At.below (At.alloc (A1_1)) hbw5
  have A2_0 : At (World.alloc w4 (.cells #[.float .f64 (ofKey (A)), .float .f64 (ofKey (Bh)), .int .i64 (pd)] 31)) (w4.heap.size) 0 (.float .f64 (ofKey (A))) := ⟨by simp [go_sem], by simp [go_sem]⟩
  replace A2_0 := At.below A2_0 hbw5
  have A2_1 : At (World.alloc w4 (.cells #[.float .f64 (ofKey (A)), .float .f64 (ofKey (Bh)), .int .i64 (pd)] 31)) (w4.heap.size) 1 (.float .f64 (ofKey (Bh))) := ⟨by simp [go_sem], by simp [go_sem]⟩
  replace A2_1 := At.below A2_1 hbw5
  have A2_2 : At (World.alloc w4 (.cells #[.float .f64 (ofKey (A)), .float .f64 (ofKey (Bh)), .int .i64 (pd)] 31)) (w4.heap.size) 2 (.int .i64 (pd)) := ⟨by simp [go_sem], by simp [go_sem]⟩
  replace A2_2 := At.below A2_2 hbw5
  replace B := below_step B B.size (below_alloc (hbw5))
  clear hbw5
  have F0_0 := A0_0.1; have G0_0 := A0_0.2
  have F0_1 := A0_1.1; have G0_1 := A0_1.2
  have F1_0 := A1_0.1; have G1_0 := A1_0.2
  have F1_1 := A1_1.1; have G1_1 := A1_1.2
  have F2_0 := A2_0.1; have G2_0 := A2_0.2
  have F2_1 := A2_1.1; have G2_1 := A2_1.2
  have F2_2 := A2_2.1; have G2_2 := A2_2.2
  have Z0 := A0_0.lt
  have Z1 := A1_0.lt
  have Z2 := A2_0.lt
  go_wp2_with fail
  refine (DO.out _).mono ?_
  rintro e w6 ⟨rfl, hbw6⟩
  clear F0_0 G0_0 F0_1 G0_1 F1_0 G1_0 F1_1 G1_1 F2_0 G2_0 F2_1 G2_1 F2_2 G2_2 Z0 Z1 Z2
  have n3 : w4.heap.size < w5.heap.size := At.lt A2_2
  replace A0_0 := At.below (At.alloc (A0_0)) hbw6
  replace A0_1 := At.below (At.alloc (A0_1)) hbw6
  replace A1_0 := At.below (At.alloc (A1_0)) hbw6
  replace A1_1 := At.below (At.alloc (A1_1)) hbw6
  replace A2_0 := At.below (At.alloc (A2_0)) hbw6
  replace A2_1 := At.below (At.alloc (A2_1)) hbw6
  replace A2_2 := At.below (At.alloc (A2_2)) hbw6
  have A3_0 : At (World.alloc w5 (.cells #[.float .f64 (ofKey (C)), .float .f64 (ofKey (D)), .int .i64 (qd)] 31)) (w5.heap.size) 0 (.float .f64 (ofKey (C))) := ⟨by simp [go_sem], by simp [go_sem]⟩
  replace A3_0 := At.below A3_0 hbw6
  have A3_1 : At (World.alloc w5 (.cells #[.float .f64 (ofKey (C)), .float .f64 (ofKey (D)), .int .i64 (qd)] 31)) (w5.heap.size) 1 (.float .f64 (ofKey (D))) := ⟨by simp [go_sem], by simp [go_sem]⟩
  replace A3_1 := At.below A3_1 hbw6
  have A3_2 : At (World.alloc w5 (.cells #[.float .f64 (ofKey (C)), .float .f64 (ofKey (D)), .int .i64 (qd)] 31)) (w5.heap.size) 2 (.int .i64 (qd)) := ⟨by simp [go_sem], by simp [go_sem]⟩
  replace A3_2 := At.below A3_2 hbw6
  replace B := below_step B B.size (below_alloc (hbw6))
  clear hbw6
  have F0_0 := A0_0.1; have G0_0 := A0_0.2
  have F0_1 := A0_1.1; have G0_1 := A0_1.2
  have F1_0 := A1_0.1; have G1_0 := A1_0.2
  have F1_1 := A1_1.1; have G1_1 := A1_1.2
  have F2_0 := A2_0.1; have G2_0 := A2_0.2
  have F2_1 := A2_1.1; have G2_1 := A2_1.2
  have F2_2 := A2_2.1; have G2_2 := A2_2.2
  have F3_0 := A3_0.1; have G3_0 := A3_0.2
  have F3_1 := A3_1.1; have G3_1 := A3_1.2
  have F3_2 := A3_2.1; have G3_2 := A3_2.2
  have Z0 := A0_0.lt
  have Z1 := A1_0.lt
  have Z2 := A2_0.lt
  have Z3 := A3_0.lt
  go_wp2_with fail
  refine (AP.out _).mono ?_
  rintro e w7 ⟨rfl, hbw7⟩
  clear F0_0 G0_0 F0_1 G0_1 F1_0 G1_0 F1_1 G1_1 F2_0 G2_0 F2_1 G2_1 F2_2 G2_2 F3_0 G3_0 F3_1 G3_1 F3_2 G3_2 Z0 Z1 Z2 Z3
  have n4 : w5.heap.size < w6.heap.size := At.lt A3_2
  replace A0_0 := At.below (At.alloc (A0_0)) hbw7
  replace A0_1 := At.below (At.alloc (A0_1)) hbw7
  replace A1_0 := At.below (At.alloc (A1_0)) hbw7
  replace A1_1 := At.below (At.alloc (A1_1)) hbw7
  replace A2_0 := At.below (At.alloc (A2_0)) hbw7
  replace A2_1 := At.below (At.alloc (A2_1)) hbw7
  replace A2_2 := At.below (At.alloc (A2_2)) hbw7
  replace A3_0 := At.below (At.alloc (A3_0)) hbw7
  replace A3_1 := At.below (At.alloc (A3_1)) hbw7
  replace A3_2 := At.below (At.alloc (A3_2)) hbw7
  have A4_0 : At (World.alloc w6 (.cells #[.float .f64 (ofKey (X)), .float .f64 (ofKey (Y)), .int .i64 (rd)] 31)) (w6.heap.size) 0 (.float .f64 (ofKey (X))) := ⟨by simp [go_sem], by simp [go_sem]⟩
  replace A4_0 := At.below A4_0 hbw7
  have A4_1 : At (World.alloc w6 (.cells #[.float .f64 (ofKey (X)), .float .f64 (ofKey (Y)), .int .i64 (rd)] 31)) (w6.heap.size) 1 (.float .f64 (ofKey (Y))) := ⟨by simp [go_sem], by simp [go_sem]⟩
  replace A4_1 := At.below A4_1 hbw7
  have A4_2 : At (World.alloc w6 (.cells #[.float .f64 (ofKey (X)), .float .f64 (ofKey (Y)), .int .i64 (rd)] 31)) (w6.heap.size) 2 (.int .i64 (rd)) := ⟨by simp [go_sem], by simp [go_sem]⟩
  replace A4_2 := At.below A4_2 hbw7
  replace B := below_step B B.size (below_alloc (hbw7))
  clear hbw7
  have F0_0 := A0_0.1; have G0_0 := A0_0.2
  have F0_1 := A0_1.1; have G0_1 := A0_1.2
  have F1_0 := A1_0.1; have G1_0 := A1_0.2
  have F1_1 := A1_1.1; have G1_1 := A1_1.2
  have F2_0 := A2_0.1; have G2_0 := A2_0.2
  have F2_1 := A2_1.1; have G2_1 := A2_1.2
  have F2_2 := A2_2.1; have G2_2 := A2_2.2
  have F3_0 := A3_0.1; have G3_0 := A3_0.2
  have F3_1 := A3_1.1; have G3_1 := A3_1.2
  have F3_2 := A3_2.1; have G3_2 := A3_2.2
  have F4_0 := A4_0.1; have G4_0 := A4_0.2
  have F4_1 := A4_1.1; have G4_1 := A4_1.2
  have F4_2 := A4_2.1; have G4_2 := A4_2.2
  have Z0 := A0_0.lt
  have Z1 := A1_0.lt
  have Z2 := A2_0.lt
  have Z3 := A3_0.lt
  have Z4 := A4_0.lt
  clear AL SX SZ DX DZ DO AP
  by_cases hr2 : 2 ≤ rd
  · have hxy := hXY hr2
    go_wp2_with fail
    refine (EX.out _).mono ?_
    rintro e w8 ⟨rfl, hbw8⟩
    clear F0_0 G0_0 F0_1 G0_1 F1_0 G1_0 F1_1 G1_1 F2_0 G2_0 F2_1 G2_1 F2_2 G2_2 F3_0 G3_0 F3_1 G3_1 F3_2 G3_2 F4_0 G4_0 F4_1 G4_1 F4_2 G4_2 Z0 Z1 Z2 Z3 Z4
    have n5 : w6.heap.size < w7.heap.size := At.lt A4_2
    replace A0_0 := At.below (At.alloc (A0_0)) hbw8
    replace A0_1 := At.below (At.alloc (A0_1)) hbw8
    replace A1_0 := At.below (At.alloc (A1_0)) hbw8
    replace A1_1 := At.below (At.alloc (A1_1)) hbw8
    replace A2_0 := At.below (At.alloc (A2_0)) hbw8
    replace A2_1 := At.below (At.alloc (A2_1)) hbw8
    replace A2_2 := At.below (At.alloc (A2_2)) hbw8
    replace A3_0 := At.below (At.alloc (A3_0)) hbw8
    replace A3_1 := At.below (At.alloc (A3_1)) hbw8
    replace A3_2 := At.below (At.alloc (A3_2)) hbw8
    replace A4_0 := At.below (At.alloc (A4_0)) hbw8
    replace A4_1 := At.below (At.alloc (A4_1)) hbw8
    replace A4_2 := At.below (At.alloc (A4_2)) hbw8
    have A5_0 : At (World.alloc w7 (.cells #[.float .f64 (ofKey (X)), .float .f64 (ofKey (Y))] 27)) (w7.heap.size) 0 (.float .f64 (ofKey (X))) := ⟨by simp [go_sem], by simp [go_sem]⟩
    replace A5_0 := At.below A5_0 hbw8
    have A5_1 : At (World.alloc w7 (.cells #[.float .f64 (ofKey (X)), .float .f64 (ofKey (Y))] 27)) (w7.heap.size) 1 (.float .f64 (ofKey (Y))) := ⟨by simp [go_sem], by simp [go_sem]⟩
    replace A5_1 := At.below A5_1 hbw8
    replace B := below_step B B.size (below_alloc (hbw8))
    clear hbw8
    have F0_0 := A0_0.1; have G0_0 := A0_0.2
    have F0_1 := A0_1.1; have G0_1 := A0_1.2
    have F1_0 := A1_0.1; have G1_0 := A1_0.2
    have F1_1 := A1_1.1; have G1_1 := A1_1.2
    have F2_0 := A2_0.1; have G2_0 := A2_0.2
    have F2_1 := A2_1.1; have G2_1 := A2_1.2
    have F2_2 := A2_2.1; have G2_2 := A2_2.2
    have F3_0 := A3_0.1; have G3_0 := A3_0.2
    have F3_1 := A3_1.1; have G3_1 := A3_1.2
    have F3_2 := A3_2.1; have G3_2 := A3_2.2
    have F4_0 := A4_0.1; have G4_0 := A4_0.2
    have F4_1 := A4_1.1; have G4_1 := A4_1.2
    have F4_2 := A4_2.1; have G4_2 := A4_2.2
    have F5_0 := A5_0.1; have G5_0 := A5_0.2
    have F5_1 := A5_1.1; have G5_1 := A5_1.2
    have Z0 := A0_0.lt
    have Z1 := A1_0.lt
    have Z2 := A2_0.lt
    have Z3 := A3_0.lt
    have Z4 := A4_0.lt
    have Z5 := A5_0.lt
    dsimp only
    iterate 4 go_step
    clear F0_0 G0_0 F0_1 G0_1 F1_0 G1_0 F1_1 G1_1 F2_0 G2_0 F2_1 G2_1 F2_2 G2_2 F3_0 G3_0 F3_1 G3_1 F3_2 G3_2 F4_0 G4_0 F4_1 G4_1 F4_2 G4_2 F5_0 G5_0 F5_1 G5_1 Z0 Z1 Z2 Z3 Z4 Z5
    replace A0_0 := At.set_blk (b' := w4.heap.size) (f' := 0) A0_0 (by omega) (.float .f64 (ofKey (A1)))
    replace A0_1 := At.set_blk (b' := w4.heap.size) (f' := 0) A0_1 (by omega) (.float .f64 (ofKey (A1)))
    replace A1_0 := At.set_blk (b' := w4.heap.size) (f' := 0) A1_0 (by omega) (.float .f64 (ofKey (A1)))
    replace A1_1 := At.set_blk (b' := w4.heap.size) (f' := 0) A1_1 (by omega) (.float .f64 (ofKey (A1)))
    replace A2_0 := At.set_same A2_0 (.float .f64 (ofKey (A1)))
    replace A2_1 := At.set_off (f' := 0) A2_1 (by decide) (.float .f64 (ofKey (A1)))
    replace A2_2 := At.set_off (f' := 0) A2_2 (by decide) (.float .f64 (ofKey (A1)))
    replace A3_0 := At.set_blk (b' := w4.heap.size) (f' := 0) A3_0 (by omega) (.float .f64 (ofKey (A1)))
    replace A3_1 := At.set_blk (b' := w4.heap.size) (f' := 0) A3_1 (by omega) (.float .f64 (ofKey (A1)))
    replace A3_2 := At.set_blk (b' := w4.heap.size) (f' := 0) A3_2 (by omega) (.float .f64 (ofKey (A1)))
    replace A4_0 := At.set_blk (b' := w4.heap.size) (f' := 0) A4_0 (by omega) (.float .f64 (ofKey (A1)))
    replace A4_1 := At.set_blk (b' := w4.heap.size) (f' := 0) A4_1 (by omega) (.float .f64 (ofKey (A1)))
    replace A4_2 := At.set_blk (b' := w4.heap.size) (f' := 0) A4_2 (by omega) (.float .f64 (ofKey (A1)))
    replace A5_0 := At.set_blk (b' := w4.heap.size) (f' := 0) A5_0 (by omega) (.float .f64 (ofKey (A1)))
    replace A5_1 := At.set_blk (b' := w4.heap.size) (f' := 0) A5_1 (by omega) (.float .f64 (ofKey (A1)))
    replace A0_0 := At.set_blk (b' := w4.heap.size) (f' := 1) A0_0 (by omega) (.float .f64 (ofKey (B1)))
    replace A0_1 := At.set_blk (b' := w4.heap.size) (f' := 1) A0_1 (by omega) (.float .f64 (ofKey (B1)))
    replace A1_0 := At.set_blk (b' := w4.heap.size) (f' := 1) A1_0 (by omega) (.float .f64 (ofKey (B1)))
    replace A1_1 := At.set_blk (b' := w4.heap.size) (f' := 1) A1_1 (by omega) (.float .f64 (ofKey (B1)))
    replace A2_0 := At.set_off (f' := 1) A2_0 (by decide) (.float .f64 (ofKey (B1)))
    replace A2_1 := At.set_same A2_1 (.float .f64 (ofKey (B1)))
    replace A2_2 := At.set_off (f' := 1) A2_2 (by decide) (.float .f64 (ofKey (B1)))
    replace A3_0 := At.set_blk (b' := w4.heap.size) (f' := 1) A3_0 (by omega) (.float .f64 (ofKey (B1)))
    replace A3_1 := At.set_blk (b' := w4.heap.size) (f' := 1) A3_1 (by omega) (.float .f64 (ofKey (B1)))
    replace A3_2 := At.set_blk (b' := w4.heap.size) (f' := 1) A3_2 (by omega) (.float .f64 (ofKey (B1)))
    replace A4_0 := At.set_blk (b' := w4.heap.size) (f' := 1) A4_0 (by omega) (.float .f64 (ofKey (B1)))
    replace A4_1 := At.set_blk (b' := w4.heap.size) (f' := 1) A4_1 (by omega) (.float .f64 (ofKey (B1)))
    replace A4_2 := At.set_blk (b' := w4.heap.size) (f' := 1) A4_2 (by omega) (.float .f64 (ofKey (B1)))
    replace A5_0 := At.set_blk (b' := w4.heap.size) (f' := 1) A5_0 (by omega) (.float .f64 (ofKey (B1)))
    replace A5_1 := At.set_blk (b' := w4.heap.size) (f' := 1) A5_1 (by omega) (.float .f64 (ofKey (B1)))
    replace A0_0 := At.set_blk (b' := w4.heap.size) (f' := 2) A0_0 (by omega) (.int .i64 (p1))
    replace A0_1 := At.set_blk (b' := w4.heap.size) (f' := 2) A0_1 (by omega) (.int .i64 (p1))
    replace A1_0 := At.set_blk (b' := w4.heap.size) (f' := 2) A1_0 (by omega) (.int .i64 (p1))
    replace A1_1 := At.set_blk (b' := w4.heap.size) (f' := 2) A1_1 (by omega) (.int .i64 (p1))
    replace A2_0 := At.set_off (f' := 2) A2_0 (by decide) (.int .i64 (p1))
    replace A2_1 := At.set_off (f' := 2) A2_1 (by decide) (.int .i64 (p1))
    replace A2_2 := At.set_same A2_2 (.int .i64 (p1))
    replace A3_0 := At.set_blk (b' := w4.heap.size) (f' := 2) A3_0 (by omega) (.int .i64 (p1))
    replace A3_1 := At.set_blk (b' := w4.heap.size) (f' := 2) A3_1 (by omega) (.int .i64 (p1))
    replace A3_2 := At.set_blk (b' := w4.heap.size) (f' := 2) A3_2 (by omega) (.int .i64 (p1))
    replace A4_0 := At.set_blk (b' := w4.heap.size) (f' := 2) A4_0 (by omega) (.int .i64 (p1))
    replace A4_1 := At.set_blk (b' := w4.heap.size) (f' := 2) A4_1 (by omega) (.int .i64 (p1))
    replace A4_2 := At.set_blk (b' := w4.heap.size) (f' := 2) A4_2 (by omega) (.int .i64 (p1))
    replace A5_0 := At.set_blk (b' := w4.heap.size) (f' := 2) A5_0 (by omega) (.int .i64 (p1))
    replace A5_1 := At.set_blk (b' := w4.heap.size) (f' := 2) A5_1 (by omega) (.int .i64 (p1))
    have B' : Below w.heap.size w (World.setCell (World.setCell (World.setCell w8 ⟨w4.heap.size, 0, none⟩ (.float .f64 (ofKey (A1)))) ⟨w4.heap.size, 1, none⟩ (.float .f64 (ofKey (B1)))) ⟨w4.heap.size, 2, none⟩ (.int .i64 (p1))) := (Below.setCell (Below.setCell (Below.setCell B (p := ⟨w4.heap.size, 0, none⟩) (by first | (show w.heap.size ≤ w4.heap.size; omega) | (have := B.size; show w.heap.size ≤ w4.heap.size; omega)) (.float .f64 (ofKey (A1)))) (p := ⟨w4.heap.size, 1, none⟩) (by first | (show w.heap.size ≤ w4.heap.size; omega) | (have := B.size; show w.heap.size ≤ w4.heap.size; omega)) (.float .f64 (ofKey (B1)))) (p := ⟨w4.heap.size, 2, none⟩) (by first | (show w.heap.size ≤ w4.heap.size; omega) | (have := B.size; show w.heap.size ≤ w4.heap.size; omega)) (.int .i64 (p1)))
    clear B
    obtain ⟨w9, hw9⟩ : ∃ w9, w9 = (World.setCell (World.setCell (World.setCell w8 ⟨w4.heap.size, 0, none⟩ (.float .f64 (ofKey (A1)))) ⟨w4.heap.size, 1, none⟩ (.float .f64 (ofKey (B1)))) ⟨w4.heap.size, 2, none⟩ (.int .i64 (p1))) := ⟨_, rfl⟩
    rw [← hw9]
    replace A0_0 := At.of A0_0 hw9
    replace A0_1 := At.of A0_1 hw9
    replace A1_0 := At.of A1_0 hw9
    replace A1_1 := At.of A1_1 hw9
    replace A2_0 := At.of A2_0 hw9
    replace A2_1 := At.of A2_1 hw9
    replace A2_2 := At.of A2_2 hw9
    replace A3_0 := At.of A3_0 hw9
    replace A3_1 := At.of A3_1 hw9
    replace A3_2 := At.of A3_2 hw9
    replace A4_0 := At.of A4_0 hw9
    replace A4_1 := At.of A4_1 hw9
    replace A4_2 := At.of A4_2 hw9
    replace A5_0 := At.of A5_0 hw9
    replace A5_1 := At.of A5_1 hw9
    have B := below_of B' hw9
    clear B' hw9
    have F0_0 := A0_0.1; have G0_0 := A0_0.2
    have F0_1 := A0_1.1; have G0_1 := A0_1.2
    have F1_0 := A1_0.1; have G1_0 := A1_0.2
    have F1_1 := A1_1.1; have G1_1 := A1_1.2
    have F2_0 := A2_0.1; have G2_0 := A2_0.2
    have F2_1 := A2_1.1; have G2_1 := A2_1.2
    have F2_2 := A2_2.1; have G2_2 := A2_2.2
    have F3_0 := A3_0.1; have G3_0 := A3_0.2
    have F3_1 := A3_1.1; have G3_1 := A3_1.2
    have F3_2 := A3_2.1; have G3_2 := A3_2.2
    have F4_0 := A4_0.1; have G4_0 := A4_0.2
    have F4_1 := A4_1.1; have G4_1 := A4_1.2
    have F4_2 := A4_2.1; have G4_2 := A4_2.2
    have F5_0 := A5_0.1; have G5_0 := A5_0.2
    have F5_1 := A5_1.1; have G5_1 := A5_1.2
    have Z0 := A0_0.lt
    have Z1 := A1_0.lt
    have Z2 := A2_0.lt
    have Z3 := A3_0.lt
    have Z4 := A4_0.lt
    have Z5 := A5_0.lt
    go_wp2_with fail
    refine (EZ.out _).mono ?_
    rintro e w10 ⟨rfl, hbw10⟩
    clear F0_0 G0_0 F0_1 G0_1 F1_0 G1_0 F1_1 G1_1 F2_0 G2_0 F2_1 G2_1 F2_2 G2_2 F3_0 G3_0 F3_1 G3_1 F3_2 G3_2 F4_0 G4_0 F4_1 G4_1 F4_2 G4_2 F5_0 G5_0 F5_1 G5_1 Z0 Z1 Z2 Z3 Z4 Z5
    replace A0_0 := At.below (A0_0) hbw10
    replace A0_1 := At.below (A0_1) hbw10
    replace A1_0 := At.below (A1_0) hbw10
    replace A1_1 := At.below (A1_1) hbw10
    replace A2_0 := At.below (A2_0) hbw10
    replace A2_1 := At.below (A2_1) hbw10
    replace A2_2 := At.below (A2_2) hbw10
    replace A3_0 := At.below (A3_0) hbw10
    replace A3_1 := At.below (A3_1) hbw10
    replace A3_2 := At.below (A3_2) hbw10
    replace A4_0 := At.below (A4_0) hbw10
    replace A4_1 := At.below (A4_1) hbw10
    replace A4_2 := At.below (A4_2) hbw10
    replace A5_0 := At.below (A5_0) hbw10
    replace A5_1 := At.below (A5_1) hbw10
    replace B := below_step B B.size (hbw10)
    clear hbw10
    have F0_0 := A0_0.1; have G0_0 := A0_0.2
    have F0_1 := A0_1.1; have G0_1 := A0_1.2
    have F1_0 := A1_0.1; have G1_0 := A1_0.2
    have F1_1 := A1_1.1; have G1_1 := A1_1.2
    have F2_0 := A2_0.1; have G2_0 := A2_0.2
    have F2_1 := A2_1.1; have G2_1 := A2_1.2
    have F2_2 := A2_2.1; have G2_2 := A2_2.2
    have F3_0 := A3_0.1; have G3_0 := A3_0.2
    have F3_1 := A3_1.1; have G3_1 := A3_1.2
    have F3_2 := A3_2.1; have G3_2 := A3_2.2
    have F4_0 := A4_0.1; have G4_0 := A4_0.2
    have F4_1 := A4_1.1; have G4_1 := A4_1.2
    have F4_2 := A4_2.1; have G4_2 := A4_2.2
    have F5_0 := A5_0.1; have G5_0 := A5_0.2
    have F5_1 := A5_1.1; have G5_1 := A5_1.2
    have Z0 := A0_0.lt
    have Z1 := A1_0.lt
    have Z2 := A2_0.lt
    have Z3 := A3_0.lt
    have Z4 := A4_0.lt
    have Z5 := A5_0.lt
    dsimp only
    iterate 4 go_step
    clear F0_0 G0_0 F0_1 G0_1 F1_0 G1_0 F1_1 G1_1 F2_0 G2_0 F2_1 G2_1 F2_2 G2_2 F3_0 G3_0 F3_1 G3_1 F3_2 G3_2 F4_0 G4_0 F4_1 G4_1 F4_2 G4_2 F5_0 G5_0 F5_1 G5_1 Z0 Z1 Z2 Z3 Z4 Z5
    replace A0_0 := At.set_blk (b' := w5.heap.size) (f' := 0) A0_0 (by omega) (.float .f64 (ofKey (C1)))
    replace A0_1 := At.set_blk (b' := w5.heap.size) (f' := 0) A0_1 (by omega) (.float .f64 (ofKey (C1)))
    replace A1_0 := At.set_blk (b' := w5.heap.size) (f' := 0) A1_0 (by omega) (.float .f64 (ofKey (C1)))
    replace A1_1 := At.set_blk (b' := w5.heap.size) (f' := 0) A1_1 (by omega) (.float .f64 (ofKey (C1)))
    replace A2_0 := At.set_blk (b' := w5.heap.size) (f' := 0) A2_0 (by omega) (.float .f64 (ofKey (C1)))
    replace A2_1 := At.set_blk (b' := w5.heap.size) (f' := 0) A2_1 (by omega) (.float .f64 (ofKey (C1)))
    replace A2_2 := At.set_blk (b' := w5.heap.size) (f' := 0) A2_2 (by omega) (.float .f64 (ofKey (C1)))
    replace A3_0 := At.set_same A3_0 (.float .f64 (ofKey (C1)))
    replace A3_1 := At.set_off (f' := 0) A3_1 (by decide) (.float .f64 (ofKey (C1)))
    replace A3_2 := At.set_off (f' := 0) A3_2 (by decide) (.float .f64 (ofKey (C1)))
    replace A4_0 := At.set_blk (b' := w5.heap.size) (f' := 0) A4_0 (by omega) (.float .f64 (ofKey (C1)))
    replace A4_1 := At.set_blk (b' := w5.heap.size) (f' := 0) A4_1 (by omega) (.float .f64 (ofKey (C1)))
    replace A4_2 := At.set_blk (b' := w5.heap.size) (f' := 0) A4_2 (by omega) (.float .f64 (ofKey (C1)))
    replace A5_0 := At.set_blk (b' := w5.heap.size) (f' := 0) A5_0 (by omega) (.float .f64 (ofKey (C1)))
    replace A5_1 := At.set_blk (b' := w5.heap.size) (f' := 0) A5_1 (by omega) (.float .f64 (ofKey (C1)))
    replace A0_0 := At.set_blk (b' := w5.heap.size) (f' := 1) A0_0 (by omega) (.float .f64 (ofKey (D1)))
    replace A0_1 := At.set_blk (b' := w5.heap.size) (f' := 1) A0_1 (by omega) (.float .f64 (ofKey (D1)))
    replace A1_0 := At.set_blk (b' := w5.heap.size) (f' := 1) A1_0 (by omega) (.float .f64 (ofKey (D1)))
    replace A1_1 := At.set_blk (b' := w5.heap.size) (f' := 1) A1_1 (by omega) (.float .f64 (ofKey (D1)))
    replace A2_0 := At.set_blk (b' := w5.heap.size) (f' := 1) A2_0 (by omega) (.float .f64 (ofKey (D1)))
    replace A2_1 := At.set_blk (b' := w5.heap.size) (f' := 1) A2_1 (by omega) (.float .f64 (ofKey (D1)))
    replace A2_2 := At.set_blk (b' := w5.heap.size) (f' := 1) A2_2 (by omega) (.float .f64 (ofKey (D1)))
    replace A3_0 := At.set_off (f' := 1) A3_0 (by decide) (.float .f64 (ofKey (D1)))
    replace A3_1 := At.set_same A3_1 (.float .f64 (ofKey (D1)))
    replace A3_2 := At.set_off (f' := 1) A3_2 (by decide) (.float .f64 (ofKey (D1)))
    replace A4_0 := At.set_blk (b' := w5.heap.size) (f' := 1) A4_0 (by omega) (.float .f64 (ofKey (D1)))
    replace A4_1 := At.set_blk (b' := w5.heap.size) (f' := 1) A4_1 (by omega) (.float .f64 (ofKey (D1)))
    replace A4_2 := At.set_blk (b' := w5.heap.size) (f' := 1) A4_2 (by omega) (.float .f64 (ofKey (D1)))
    replace A5_0 := At.set_blk (b' := w5.heap.size) (f' := 1) A5_0 (by omega) (.float .f64 (ofKey (D1)))
    replace A5_1 := At.set_blk (b' := w5.heap.size) (f' := 1) A5_1 (by omega) (.float .f64 (ofKey (D1)))
    replace A0_0 := At.set_blk (b' := w5.heap.size) (f' := 2) A0_0 (by omega) (.int .i64 (q1))
    replace A0_1 := At.set_blk (b' := w5.heap.size) (f' := 2) A0_1 (by omega) (.int .i64 (q1))
    replace A1_0 := At.set_blk (b' := w5.heap.size) (f' := 2) A1_0 (by omega) (.int .i64 (q1))
    replace A1_1 := At.set_blk (b' := w5.heap.size) (f' := 2) A1_1 (by omega) (.int .i64 (q1))
    replace A2_0 := At.set_blk (b' := w5.heap.size) (f' := 2) A2_0 (by omega) (.int .i64 (q1))
    replace A2_1 := At.set_blk (b' := w5.heap.size) (f' := 2) A2_1 (by omega) (.int .i64 (q1))
    replace A2_2 := At.set_blk (b' := w5.heap.size) (f' := 2) A2_2 (by omega) (.int .i64 (q1))
    replace A3_0 := At.set_off (f' := 2) A3_0 (by decide) (.int .i64 (q1))
    replace A3_1 := At.set_off (f' := 2) A3_1 (by decide) (.int .i64 (q1))
    replace A3_2 := At.set_same A3_2 (.int .i64 (q1))
    replace A4_0 := At.set_blk (b' := w5.heap.size) (f' := 2) A4_0 (by omega) (.int .i64 (q1))
    replace A4_1 := At.set_blk (b' := w5.heap.size) (f' := 2) A4_1 (by omega) (.int .i64 (q1))
    replace A4_2 := At.set_blk (b' := w5.heap.size) (f' := 2) A4_2 (by omega) (.int .i64 (q1))
    replace A5_0 := At.set_blk (b' := w5.heap.size) (f' := 2) A5_0 (by omega) (.int .i64 (q1))
    replace A5_1 := At.set_blk (b' := w5.heap.size) (f' := 2) A5_1 (by omega) (.int .i64 (q1))
    have B' : Below w.heap.size w (World.setCell (World.setCell (World.setCell w10 ⟨w5.heap.size, 0, none⟩ (.float .f64 (ofKey (C1)))) ⟨w5.heap.size, 1, none⟩ (.float .f64 (ofKey (D1)))) ⟨w5.heap.size, 2, none⟩ (.int .i64 (q1))) := (Below.setCell (Below.setCell (Below.setCell B (p := ⟨w5.heap.size, 0, none⟩) (by first | (show w.heap.size ≤ w5.heap.size; omega) | (have := B.size; show w.heap.size ≤ w5.heap.size; omega)) (.float .f64 (ofKey (C1)))) (p := ⟨w5.heap.size, 1, none⟩) (by first | (show w.heap.size ≤ w5.heap.size; omega) | (have := B.size; show w.heap.size ≤ w5.heap.size; omega)) (.float .f64 (ofKey (D1)))) (p := ⟨w5.heap.size, 2, none⟩) (by first | (show w.heap.size ≤ w5.heap.size; omega) | (have := B.size; show w.heap.size ≤ w5.heap.size; omega)) (.int .i64 (q1)))
    clear B
    obtain ⟨w11, hw11⟩ : ∃ w11, w11 = (World.setCell (World.setCell (World.setCell w10 ⟨w5.heap.size, 0, none⟩ (.float .f64 (ofKey (C1)))) ⟨w5.heap.size, 1, none⟩ (.float .f64 (ofKey (D1)))) ⟨w5.heap.size, 2, none⟩ (.int .i64 (q1))) := ⟨_, rfl⟩
    rw [← hw11]
    replace A0_0 := At.of A0_0 hw11
    replace A0_1 := At.of A0_1 hw11
    replace A1_0 := At.of A1_0 hw11
    replace A1_1 := At.of A1_1 hw11
    replace A2_0 := At.of A2_0 hw11
    replace A2_1 := At.of A2_1 hw11
    replace A2_2 := At.of A2_2 hw11
    replace A3_0 := At.of A3_0 hw11
    replace A3_1 := At.of A3_1 hw11
    replace A3_2 := At.of A3_2 hw11
    replace A4_0 := At.of A4_0 hw11
    replace A4_1 := At.of A4_1 hw11
    replace A4_2 := At.of A4_2 hw11
    replace A5_0 := At.of A5_0 hw11
    replace A5_1 := At.of A5_1 hw11
    have B := below_of B' hw11
    clear B' hw11
    have F0_0 := A0_0.1; have G0_0 := A0_0.2
    have F0_1 := A0_1.1; have G0_1 := A0_1.2
    have F1_0 := A1_0.1; have G1_0 := A1_0.2
    have F1_1 := A1_1.1; have G1_1 := A1_1.2
    have F2_0 := A2_0.1; have G2_0 := A2_0.2
    have F2_1 := A2_1.1; have G2_1 := A2_1.2
    have F2_2 := A2_2.1; have G2_2 := A2_2.2
    have F3_0 := A3_0.1; have G3_0 := A3_0.2
    have F3_1 := A3_1.1; have G3_1 := A3_1.2
    have F3_2 := A3_2.1; have G3_2 := A3_2.2
    have F4_0 := A4_0.1; have G4_0 := A4_0.2
    have F4_1 := A4_1.1; have G4_1 := A4_1.2
    have F4_2 := A4_2.1; have G4_2 := A4_2.2
    have F5_0 := A5_0.1; have G5_0 := A5_0.2
    have F5_1 := A5_1.1; have G5_1 := A5_1.2
    have Z0 := A0_0.lt
    have Z1 := A1_0.lt
    have Z2 := A2_0.lt
    have Z3 := A3_0.lt
    have Z4 := A4_0.lt
    have Z5 := A5_0.lt
    go_wp2_with fail
    refine (DS.out _).mono ?_
    rintro e w12 ⟨rfl, hbw12⟩
    clear F0_0 G0_0 F0_1 G0_1 F1_0 G1_0 F1_1 G1_1 F2_0 G2_0 F2_1 G2_1 F2_2 G2_2 F3_0 G3_0 F3_1 G3_1 F3_2 G3_2 F4_0 G4_0 F4_1 G4_1 F4_2 G4_2 F5_0 G5_0 F5_1 G5_1 Z0 Z1 Z2 Z3 Z4 Z5
    replace A0_0 := At.below (A0_0) hbw12
    replace A0_1 := At.below (A0_1) hbw12
    replace A1_0 := At.below (A1_0) hbw12
    replace A1_1 := At.below (A1_1) hbw12
    replace A2_0 := At.below (A2_0) hbw12
    replace A2_1 := At.below (A2_1) hbw12
    replace A2_2 := At.below (A2_2) hbw12
    replace A3_0 := At.below (A3_0) hbw12
    replace A3_1 := At.below (A3_1) hbw12
    replace A3_2 := At.below (A3_2) hbw12
    replace A4_0 := At.below (A4_0) hbw12
    replace A4_1 := At.below (A4_1) hbw12
    replace A4_2 := At.below (A4_2) hbw12
    replace A5_0 := At.below (A5_0) hbw12
    replace A5_1 := At.below (A5_1) hbw12
    replace B := below_step B B.size (hbw12)
    clear hbw12
    have F0_0 := A0_0.1; have G0_0 := A0_0.2
    have F0_1 := A0_1.1; have G0_1 := A0_1.2
    have F1_0 := A1_0.1; have G1_0 := A1_0.2
    have F1_1 := A1_1.1; have G1_1 := A1_1.2
    have F2_0 := A2_0.1; have G2_0 := A2_0.2
    have F2_1 := A2_1.1; have G2_1 := A2_1.2
    have F2_2 := A2_2.1; have G2_2 := A2_2.2
    have F3_0 := A3_0.1; have G3_0 := A3_0.2
    have F3_1 := A3_1.1; have G3_1 := A3_1.2
    have F3_2 := A3_2.1; have G3_2 := A3_2.2
    have F4_0 := A4_0.1; have G4_0 := A4_0.2
    have F4_1 := A4_1.1; have G4_1 := A4_1.2
    have F4_2 := A4_2.1; have G4_2 := A4_2.2
    have F5_0 := A5_0.1; have G5_0 := A5_0.2
    have F5_1 := A5_1.1; have G5_1 := A5_1.2
    have Z0 := A0_0.lt
    have Z1 := A1_0.lt
    have Z2 := A2_0.lt
    have Z3 := A3_0.lt
    have Z4 := A4_0.lt
    have Z5 := A5_0.lt
    by_cases h6 : 6 ≤ o
    · have s4 := s3 h6
      go_wp2_with fail
      go_ret
      exact ⟨rfl, Below.alloc B B.size _⟩
    · go_wp2_with fail
      go_ret
      exact ⟨rfl, Below.alloc B B.size _⟩
  · skip
    go_wp2_with fail
    refine (EX.out _).mono ?_
    rintro e w8 ⟨rfl, hbw8⟩
    clear F0_0 G0_0 F0_1 G0_1 F1_0 G1_0 F1_1 G1_1 F2_0 G2_0 F2_1 G2_1 F2_2 G2_2 F3_0 G3_0 F3_1 G3_1 F3_2 G3_2 F4_0 G4_0 F4_1 G4_1 F4_2 G4_2 Z0 Z1 Z2 Z3 Z4
    have n5 : w6.heap.size < w7.heap.size := At.lt A4_2
    replace A0_0 := At.below (At.alloc (A0_0)) hbw8
    replace A0_1 := At.below (At.alloc (A0_1)) hbw8
    replace A1_0 := At.below (At.alloc (A1_0)) hbw8
    replace A1_1 := At.below (At.alloc (A1_1)) hbw8
    replace A2_0 := At.below (At.alloc (A2_0)) hbw8
    replace A2_1 := At.below (At.alloc (A2_1)) hbw8
    replace A2_2 := At.below (At.alloc (A2_2)) hbw8
    replace A3_0 := At.below (At.alloc (A3_0)) hbw8
    replace A3_1 := At.below (At.alloc (A3_1)) hbw8
    replace A3_2 := At.below (At.alloc (A3_2)) hbw8
    replace A4_0 := At.below (At.alloc (A4_0)) hbw8
    replace A4_1 := At.below (At.alloc (A4_1)) hbw8
    replace A4_2 := At.below (At.alloc (A4_2)) hbw8
    have A5_0 : At (World.alloc w7 (.cells #[.float .f64 (ofKey (X)), .float .f64 (ofKey (Y))] 27)) (w7.heap.size) 0 (.float .f64 (ofKey (X))) := ⟨by simp [go_sem], by simp [go_sem]⟩
    replace A5_0 := At.below A5_0 hbw8
    have A5_1 : At (World.alloc w7 (.cells #[.float .f64 (ofKey (X)), .float .f64 (ofKey (Y))] 27)) (w7.heap.size) 1 (.float .f64 (ofKey (Y))) := ⟨by simp [go_sem], by simp [go_sem]⟩
    replace A5_1 := At.below A5_1 hbw8
    replace B := below_step B B.size (below_alloc (hbw8))
    clear hbw8
    have F0_0 := A0_0.1; have G0_0 := A0_0.2
    have F0_1 := A0_1.1; have G0_1 := A0_1.2
    have F1_0 := A1_0.1; have G1_0 := A1_0.2
    have F1_1 := A1_1.1; have G1_1 := A1_1.2
    have F2_0 := A2_0.1; have G2_0 := A2_0.2
    have F2_1 := A2_1.1; have G2_1 := A2_1.2
    have F2_2 := A2_2.1; have G2_2 := A2_2.2
    have F3_0 := A3_0.1; have G3_0 := A3_0.2
    have F3_1 := A3_1.1; have G3_1 := A3_1.2
    have F3_2 := A3_2.1; have G3_2 := A3_2.2
    have F4_0 := A4_0.1; have G4_0 := A4_0.2
    have F4_1 := A4_1.1; have G4_1 := A4_1.2
    have F4_2 := A4_2.1; have G4_2 := A4_2.2
    have F5_0 := A5_0.1; have G5_0 := A5_0.2
    have F5_1 := A5_1.1; have G5_1 := A5_1.2
    have Z0 := A0_0.lt
    have Z1 := A1_0.lt
    have Z2 := A2_0.lt
    have Z3 := A3_0.lt
    have Z4 := A4_0.lt
    have Z5 := A5_0.lt
    dsimp only
    iterate 4 go_step
    clear F0_0 G0_0 F0_1 G0_1 F1_0 G1_0 F1_1 G1_1 F2_0 G2_0 F2_1 G2_1 F2_2 G2_2 F3_0 G3_0 F3_1 G3_1 F3_2 G3_2 F4_0 G4_0 F4_1 G4_1 F4_2 G4_2 F5_0 G5_0 F5_1 G5_1 Z0 Z1 Z2 Z3 Z4 Z5
    replace A0_0 := At.set_blk (b' := w4.heap.size) (f' := 0) A0_0 (by omega) (.float .f64 (ofKey (A1)))
    replace A0_1 := At.set_blk (b' := w4.heap.size) (f' := 0) A0_1 (by omega) (.float .f64 (ofKey (A1)))
    replace A1_0 := At.set_blk (b' := w4.heap.size) (f' := 0) A1_0 (by omega) (.float .f64 (ofKey (A1)))
    replace A1_1 := At.set_blk (b' := w4.heap.size) (f' := 0) A1_1 (by omega) (.float .f64 (ofKey (A1)))
    replace A2_0 := At.set_same A2_0 (.float .f64 (ofKey (A1)))
    replace A2_1 := At.set_off (f' := 0) A2_1 (by decide) (.float .f64 (ofKey (A1)))
    replace A2_2 := At.set_off (f' := 0) A2_2 (by decide) (.float .f64 (ofKey (A1)))
    replace A3_0 := At.set_blk (b' := w4.heap.size) (f' := 0) A3_0 (by omega) (.float .f64 (ofKey (A1)))
    replace A3_1 := At.set_blk (b' := w4.heap.size) (f' := 0) A3_1 (by omega) (.float .f64 (ofKey (A1)))
    replace A3_2 := At.set_blk (b' := w4.heap.size) (f' := 0) A3_2 (by omega) (.float .f64 (ofKey (A1)))
    replace A4_0 := At.set_blk (b' := w4.heap.size) (f' := 0) A4_0 (by omega) (.float .f64 (ofKey (A1)))
    replace A4_1 := At.set_blk (b' := w4.heap.size) (f' := 0) A4_1 (by omega) (.float .f64 (ofKey (A1)))
    replace A4_2 := At.set_blk (b' := w4.heap.size) (f' := 0) A4_2 (by omega) (.float .f64 (ofKey (A1)))
    replace A5_0 := At.set_blk (b' := w4.heap.size) (f' := 0) A5_0 (by omega) (.float .f64 (ofKey (A1)))
    replace A5_1 := At.set_blk (b' := w4.heap.size) (f' := 0) A5_1 (by omega) (.float .f64 (ofKey (A1)))
    replace A0_0 := At.set_blk (b' := w4.heap.size) (f' := 1) A0_0 (by omega) (.float .f64 (ofKey (B1)))
    replace A0_1 := At.set_blk (b' := w4.heap.size) (f' := 1) A0_1 (by omega) (.float .f64 (ofKey (B1)))
    replace A1_0 := At.set_blk (b' := w4.heap.size) (f' := 1) A1_0 (by omega) (.float .f64 (ofKey (B1)))
    replace A1_1 := At.set_blk (b' := w4.heap.size) (f' := 1) A1_1 (by omega) (.float .f64 (ofKey (B1)))
    replace A2_0 := At.set_off (f' := 1) A2_0 (by decide) (.float .f64 (ofKey (B1)))
    replace A2_1 := At.set_same A2_1 (.float .f64 (ofKey (B1)))
    replace A2_2 := At.set_off (f' := 1) A2_2 (by decide) (.float .f64 (ofKey (B1)))
    replace A3_0 := At.set_blk (b' := w4.heap.size) (f' := 1) A3_0 (by omega) (.float .f64 (ofKey (B1)))
    replace A3_1 := At.set_blk (b' := w4.heap.size) (f' := 1) A3_1 (by omega) (.float .f64 (ofKey (B1)))
    replace A3_2 := At.set_blk (b' := w4.heap.size) (f' := 1) A3_2 (by omega) (.float .f64 (ofKey (B1)))
    replace A4_0 := At.set_blk (b' := w4.heap.size) (f' := 1) A4_0 (by omega) (.float .f64 (ofKey (B1)))
    replace A4_1 := At.set_blk (b' := w4.heap.size) (f' := 1) A4_1 (by omega) (.float .f64 (ofKey (B1)))
    replace A4_2 := At.set_blk (b' := w4.heap.size) (f' := 1) A4_2 (by omega) (.float .f64 (ofKey (B1)))
    replace A5_0 := At.set_blk (b' := w4.heap.size) (f' := 1) A5_0 (by omega) (.float .f64 (ofKey (B1)))
    replace A5_1 := At.set_blk (b' := w4.heap.size) (f' := 1) A5_1 (by omega) (.float .f64 (ofKey (B1)))
    replace A0_0 := At.set_blk (b' := w4.heap.size) (f' := 2) A0_0 (by omega) (.int .i64 (p1))
    replace A0_1 := At.set_blk (b' := w4.heap.size) (f' := 2) A0_1 (by omega) (.int .i64 (p1))
    replace A1_0 := At.set_blk (b' := w4.heap.size) (f' := 2) A1_0 (by omega) (.int .i64 (p1))
    replace A1_1 := At.set_blk (b' := w4.heap.size) (f' := 2) A1_1 (by omega) (.int .i64 (p1))
    replace A2_0 := At.set_off (f' := 2) A2_0 (by decide) (.int .i64 (p1))
    replace A2_1 := At.set_off (f' := 2) A2_1 (by decide) (.int .i64 (p1))
    replace A2_2 := At.set_same A2_2 (.int .i64 (p1))
    replace A3_0 := At.set_blk (b' := w4.heap.size) (f' := 2) A3_0 (by omega) (.int .i64 (p1))
    replace A3_1 := At.set_blk (b' := w4.heap.size) (f' := 2) A3_1 (by omega) (.int .i64 (p1))
    replace A3_2 := At.set_blk (b' := w4.heap.size) (f' := 2) A3_2 (by omega) (.int .i64 (p1))
    replace A4_0 := At.set_blk (b' := w4.heap.size) (f' := 2) A4_0 (by omega) (.int .i64 (p1))
    replace A4_1 := At.set_blk (b' := w4.heap.size) (f' := 2) A4_1 (by omega) (.int .i64 (p1))
    replace A4_2 := At.set_blk (b' := w4.heap.size) (f' := 2) A4_2 (by omega) (.int .i64 (p1))
    replace A5_0 := At.set_blk (b' := w4.heap.size) (f' := 2) A5_0 (by omega) (.int .i64 (p1))
    replace A5_1 := At.set_blk (b' := w4.heap.size) (f' := 2) A5_1 (by omega) (.int .i64 (p1))
    have B' : Below w.heap.size w (World.setCell (World.setCell (World.setCell w8 ⟨w4.heap.size, 0, none⟩ (.float .f64 (ofKey (A1)))) ⟨w4.heap.size, 1, none⟩ (.float .f64 (ofKey (B1)))) ⟨w4.heap.size, 2, none⟩ (.int .i64 (p1))) := (Below.setCell (Below.setCell (Below.setCell B (p := ⟨w4.heap.size, 0, none⟩) (by first | (show w.heap.size ≤ w4.heap.size; omega) | (have := B.size; show w.heap.size ≤ w4.heap.size; omega)) (.float .f64 (ofKey (A1)))) (p := ⟨w4.heap.size, 1, none⟩) (by first | (show w.heap.size ≤ w4.heap.size; omega) | (have := B.size; show w.heap.size ≤ w4.heap.size; omega)) (.float .f64 (ofKey (B1)))) (p := ⟨w4.heap.size, 2, none⟩) (by first | (show w.heap.size ≤ w4.heap.size; omega) | (have := B.size; show w.heap.size ≤ w4.heap.size; omega)) (.int .i64 (p1)))
    clear B
    obtain ⟨w9, hw9⟩ : ∃ w9, w9 = (World.setCell (World.setCell (World.setCell w8 ⟨w4.heap.size, 0, none⟩ (.float .f64 (ofKey (A1)))) ⟨w4.heap.size, 1, none⟩ (.float .f64 (ofKey (B1)))) ⟨w4.heap.size, 2, none⟩ (.int .i64 (p1))) := ⟨_, rfl⟩
    rw [← hw9]
    replace A0_0 := At.of A0_0 hw9
    replace A0_1 := At.of A0_1 hw9
    replace A1_0 := At.of A1_0 hw9
    replace A1_1 := At.of A1_1 hw9
    replace A2_0 := At.of A2_0 hw9
    replace A2_1 := At.of A2_1 hw9
    replace A2_2 := At.of A2_2 hw9
    replace A3_0 := At.of A3_0 hw9
    replace A3_1 := At.of A3_1 hw9
    replace A3_2 := At.of A3_2 hw9
    replace A4_0 := At.of A4_0 hw9
    replace A4_1 := At.of A4_1 hw9
    replace A4_2 := At.of A4_2 hw9
    replace A5_0 := At.of A5_0 hw9
    replace A5_1 := At.of A5_1 hw9
    have B := below_of B' hw9
    clear B' hw9
    have F0_0 := A0_0.1; have G0_0 := A0_0.2
    have F0_1 := A0_1.1; have G0_1 := A0_1.2
    have F1_0 := A1_0.1; have G1_0 := A1_0.2
    have F1_1 := A1_1.1; have G1_1 := A1_1.2
    have F2_0 := A2_0.1; have G2_0 := A2_0.2
    have F2_1 := A2_1.1; have G2_1 := A2_1.2
    have F2_2 := A2_2.1; have G2_2 := A2_2.2
    have F3_0 := A3_0.1; have G3_0 := A3_0.2
    have F3_1 := A3_1.1; have G3_1 := A3_1.2
    have F3_2 := A3_2.1; have G3_2 := A3_2.2
    have F4_0 := A4_0.1; have G4_0 := A4_0.2
    have F4_1 := A4_1.1; have G4_1 := A4_1.2
    have F4_2 := A4_2.1; have G4_2 := A4_2.2
    have F5_0 := A5_0.1; have G5_0 := A5_0.2
    have F5_1 := A5_1.1; have G5_1 := A5_1.2
    have Z0 := A0_0.lt
    have Z1 := A1_0.lt
    have Z2 := A2_0.lt
    have Z3 := A3_0.lt
    have Z4 := A4_0.lt
    have Z5 := A5_0.lt
    go_wp2_with fail
    refine (EZ.out _).mono ?_
    rintro e w10 ⟨rfl, hbw10⟩
    clear F0_0 G0_0 F0_1 G0_1 F1_0 G1_0 F1_1 G1_1 F2_0 G2_0 F2_1 G2_1 F2_2 G2_2 F3_0 G3_0 F3_1 G3_1 F3_2 G3_2 F4_0 G4_0 F4_1 G4_1 F4_2 G4_2 F5_0 G5_0 F5_1 G5_1 Z0 Z1 Z2 Z3 Z4 Z5
    replace A0_0 := At.below (A0_0) hbw10
    replace A0_1 := At.below (A0_1) hbw10
    replace A1_0 := At.below (A1_0) hbw10
    replace A1_1 := At.below (A1_1) hbw10
    replace A2_0 := At.below (A2_0) hbw10
    replace A2_1 := At.below (A2_1) hbw10
    replace A2_2 := At.below (A2_2) hbw10
    replace A3_0 := At.below (A3_0) hbw10
    replace A3_1 := At.below (A3_1) hbw10
    replace A3_2 := At.below (A3_2) hbw10
    replace A4_0 := At.below (A4_0) hbw10
    replace A4_1 := At.below (A4_1) hbw10
    replace A4_2 := At.below (A4_2) hbw10
    replace A5_0 := At.below (A5_0) hbw10
    replace A5_1 := At.below (A5_1) hbw10
    replace B := below_step B B.size (hbw10)
    clear hbw10
    have F0_0 := A0_0.1; have G0_0 := A0_0.2
    have F0_1 := A0_1.1; have G0_1 := A0_1.2
    have F1_0 := A1_0.1; have G1_0 := A1_0.2
    have F1_1 := A1_1.1; have G1_1 := A1_1.2
    have F2_0 := A2_0.1; have G2_0 := A2_0.2
    have F2_1 := A2_1.1; have G2_1 := A2_1.2
    have F2_2 := A2_2.1; have G2_2 := A2_2.2
    have F3_0 := A3_0.1; have G3_0 := A3_0.2
    have F3_1 := A3_1.1; have G3_1 := A3_1.2
    have F3_2 := A3_2.1; have G3_2 := A3_2.2
    have F4_0 := A4_0.1; have G4_0 := A4_0.2
    have F4_1 := A4_1.1; have G4_1 := A4_1.2
    have F4_2 := A4_2.1; have G4_2 := A4_2.2
    have F5_0 := A5_0.1; have G5_0 := A5_0.2
    have F5_1 := A5_1.1; have G5_1 := A5_1.2
    have Z0 := A0_0.lt
    have Z1 := A1_0.lt
    have Z2 := A2_0.lt
    have Z3 := A3_0.lt
    have Z4 := A4_0.lt
    have Z5 := A5_0.lt
    dsimp only
    iterate 4 go_step
    clear F0_0 G0_0 F0_1 G0_1 F1_0 G1_0 F1_1 G1_1 F2_0 G2_0 F2_1 G2_1 F2_2 G2_2 F3_0 G3_0 F3_1 G3_1 F3_2 G3_2 F4_0 G4_0 F4_1 G4_1 F4_2 G4_2 F5_0 G5_0 F5_1 G5_1 Z0 Z1 Z2 Z3 Z4 Z5
    replace A0_0 := At.set_blk (b' := w5.heap.size) (f' := 0) A0_0 (by omega) (.float .f64 (ofKey (C1)))
    replace A0_1 := At.set_blk (b' := w5.heap.size) (f' := 0) A0_1 (by omega) (.float .f64 (ofKey (C1)))
    replace A1_0 := At.set_blk (b' := w5.heap.size) (f' := 0) A1_0 (by omega) (.float .f64 (ofKey (C1)))
    replace A1_1 := At.set_blk (b' := w5.heap.size) (f' := 0) A1_1 (by omega) (.float .f64 (ofKey (C1)))
    replace A2_0 := At.set_blk (b' := w5.heap.size) (f' := 0) A2_0 (by omega) (.float .f64 (ofKey (C1)))
    replace A2_1 := At.set_blk (b' := w5.heap.size) (f' := 0) A2_1 (by omega) (.float .f64 (ofKey (C1)))
    replace A2_2 := At.set_blk (b' := w5.heap.size) (f' := 0) A2_2 (by omega) (.float .f64 (ofKey (C1)))
    replace A3_0 := At.set_same A3_0 (.float .f64 (ofKey (C1)))
    replace A3_1 := At.set_off (f' := 0) A3_1 (by decide) (.float .f64 (ofKey (C1)))
    replace A3_2 := At.set_off (f' := 0) A3_2 (by decide) (.float .f64 (ofKey (C1)))
    replace A4_0 := At.set_blk (b' := w5.heap.size) (f' := 0) A4_0 (by omega) (.float .f64 (ofKey (C1)))
    replace A4_1 := At.set_blk (b' := w5.heap.size) (f' := 0) A4_1 (by omega) (.float .f64 (ofKey (C1)))
    replace A4_2 := At.set_blk (b' := w5.heap.size) (f' := 0) A4_2 (by omega) (.float .f64 (ofKey (C1)))
    replace A5_0 := At.set_blk (b' := w5.heap.size) (f' := 0) A5_0 (by omega) (.float .f64 (ofKey (C1)))
    replace A5_1 := At.set_blk (b' := w5.heap.size) (f' := 0) A5_1 (by omega) (.float .f64 (ofKey (C1)))
    replace A0_0 := At.set_blk (b' := w5.heap.size) (f' := 1) A0_0 (by omega) (.float .f64 (ofKey (D1)))
    replace A0_1 := At.set_blk (b' := w5.heap.size) (f' := 1) A0_1 (by omega) (.float .f64 (ofKey (D1)))
    replace A1_0 := At.set_blk (b' := w5.heap.size) (f' := 1) A1_0 (by omega) (.float .f64 (ofKey (D1)))
    replace A1_1 := At.set_blk (b' := w5.heap.size) (f' := 1) A1_1 (by omega) (.float .f64 (ofKey (D1)))
    replace A2_0 := At.set_blk (b' := w5.heap.size) (f' := 1) A2_0 (by omega) (.float .f64 (ofKey (D1)))
    replace A2_1 := At.set_blk (b' := w5.heap.size) (f' := 1) A2_1 (by omega) (.float .f64 (ofKey (D1)))
    replace A2_2 := At.set_blk (b' := w5.heap.size) (f' := 1) A2_2 (by omega) (.float .f64 (ofKey (D1)))
    replace A3_0 := At.set_off (f' := 1) A3_0 (by decide) (.float .f64 (ofKey (D1)))
    replace A3_1 := At.set_same A3_1 (.float .f64 (ofKey (D1)))
    replace A3_2 := At.set_off (f' := 1) A3_2 (by decide) (.float .f64 (ofKey (D1)))
    replace A4_0 := At.set_blk (b' := w5.heap.size) (f' := 1) A4_0 (by omega) (.float .f64 (ofKey (D1)))
    replace A4_1 := At.set_blk (b' := w5.heap.size) (f' := 1) A4_1 (by omega) (.float .f64 (ofKey (D1)))
    replace A4_2 := At.set_blk (b' := w5.heap.size) (f' := 1) A4_2 (by omega) (.float .f64 (ofKey (D1)))
    replace A5_0 := At.set_blk (b' := w5.heap.size) (f' := 1) A5_0 (by omega) (.float .f64 (ofKey (D1)))
    replace A5_1 := At.set_blk (b' := w5.heap.size) (f' := 1) A5_1 (by omega) (.float .f64 (ofKey (D1)))
    replace A0_0 := At.set_blk (b' := w5.heap.size) (f' := 2) A0_0 (by omega) (.int .i64 (q1))
    replace A0_1 := At.set_blk (b' := w5.heap.size) (f' := 2) A0_1 (by omega) (.int .i64 (q1))
    replace A1_0 := At.set_blk (b' := w5.heap.size) (f' := 2) A1_0 (by omega) (.int .i64 (q1))
    replace A1_1 := At.set_blk (b' := w5.heap.size) (f' := 2) A1_1 (by omega) (.int .i64 (q1))
    replace A2_0 := At.set_blk (b' := w5.heap.size) (f' := 2) A2_0 (by omega) (.int .i64 (q1))
    replace A2_1 := At.set_blk (b' := w5.heap.size) (f' := 2) A2_1 (by omega) (.int .i64 (q1))
    replace A2_2 := At.set_blk (b' := w5.heap.size) (f' := 2) A2_2 (by omega) (.int .i64 (q1))
    replace A3_0 := At.set_off (f' := 2) A3_0 (by decide) (.int .i64 (q1))
    replace A3_1 := At.set_off (f' := 2) A3_1 (by decide) (.int .i64 (q1))
    replace A3_2 := At.set_same A3_2 (.int .i64 (q1))
    replace A4_0 := At.set_blk (b' := w5.heap.size) (f' := 2) A4_0 (by omega) (.int .i64 (q1))
    replace A4_1 := At.set_blk (b' := w5.heap.size) (f' := 2) A4_1 (by omega) (.int .i64 (q1))
    replace A4_2 := At.set_blk (b' := w5.heap.size) (f' := 2) A4_2 (by omega) (.int .i64 (q1))
    replace A5_0 := At.set_blk (b' := w5.heap.size) (f' := 2) A5_0 (by omega) (.int .i64 (q1))
    replace A5_1 := At.set_blk (b' := w5.heap.size) (f' := 2) A5_1 (by omega) (.int .i64 (q1))
    have B' : Below w.heap.size w (World.setCell (World.setCell (World.setCell w10 ⟨w5.heap.size, 0, none⟩ (.float .f64 (ofKey (C1)))) ⟨w5.heap.size, 1, none⟩ (.float .f64 (ofKey (D1)))) ⟨w5.heap.size, 2, none⟩ (.int .i64 (q1))) := (Below.setCell (Below.setCell (Below.setCell B (p := ⟨w5.heap.size, 0, none⟩) (by first | (show w.heap.size ≤ w5.heap.size; omega) | (have := B.size; show w.heap.size ≤ w5.heap.size; omega)) (.float .f64 (ofKey (C1)))) (p := ⟨w5.heap.size, 1, none⟩) (by first | (show w.heap.size ≤ w5.heap.size; omega) | (have := B.size; show w.heap.size ≤ w5.heap.size; omega)) (.float .f64 (ofKey (D1)))) (p := ⟨w5.heap.size, 2, none⟩) (by first | (show w.heap.size ≤ w5.heap.size; omega) | (have := B.size; show w.heap.size ≤ w5.heap.size; omega)) (.int .i64 (q1)))
    clear B
    obtain ⟨w11, hw11⟩ : ∃ w11, w11 = (World.setCell (World.setCell (World.setCell w10 ⟨w5.heap.size, 0, none⟩ (.float .f64 (ofKey (C1)))) ⟨w5.heap.size, 1, none⟩ (.float .f64 (ofKey (D1)))) ⟨w5.heap.size, 2, none⟩ (.int .i64 (q1))) := ⟨_, rfl⟩
    rw [← hw11]
    replace A0_0 := At.of A0_0 hw11
    replace A0_1 := At.of A0_1 hw11
    replace A1_0 := At.of A1_0 hw11
    replace A1_1 := At.of A1_1 hw11
    replace A2_0 := At.of A2_0 hw11
    replace A2_1 := At.of A2_1 hw11
    replace A2_2 := At.of A2_2 hw11
    replace A3_0 := At.of A3_0 hw11
    replace A3_1 := At.of A3_1 hw11
    replace A3_2 := At.of A3_2 hw11
    replace A4_0 := At.of A4_0 hw11
    replace A4_1 := At.of A4_1 hw11
    replace A4_2 := At.of A4_2 hw11
    replace A5_0 := At.of A5_0 hw11
    replace A5_1 := At.of A5_1 hw11
    have B := below_of B' hw11
    clear B' hw11
    have F0_0 := A0_0.1; have G0_0 := A0_0.2
    have F0_1 := A0_1.1; have G0_1 := A0_1.2
    have F1_0 := A1_0.1; have G1_0 := A1_0.2
    have F1_1 := A1_1.1; have G1_1 := A1_1.2
    have F2_0 := A2_0.1; have G2_0 := A2_0.2
    have F2_1 := A2_1.1; have G2_1 := A2_1.2
    have F2_2 := A2_2.1; have G2_2 := A2_2.2
    have F3_0 := A3_0.1; have G3_0 := A3_0.2
    have F3_1 := A3_1.1; have G3_1 := A3_1.2
    have F3_2 := A3_2.1; have G3_2 := A3_2.2
    have F4_0 := A4_0.1; have G4_0 := A4_0.2
    have F4_1 := A4_1.1; have G4_1 := A4_1.2
    have F4_2 := A4_2.1; have G4_2 := A4_2.2
    have F5_0 := A5_0.1; have G5_0 := A5_0.2
    have F5_1 := A5_1.1; have G5_1 := A5_1.2
    have Z0 := A0_0.lt
    have Z1 := A1_0.lt
    have Z2 := A2_0.lt
    have Z3 := A3_0.lt
    have Z4 := A4_0.lt
    have Z5 := A5_0.lt
    go_wp2_with fail
    refine (DS.out _).mono ?_
    rintro e w12 ⟨rfl, hbw12⟩
    clear F0_0 G0_0 F0_1 G0_1 F1_0 G1_0 F1_1 G1_1 F2_0 G2_0 F2_1 G2_1 F2_2 G2_2 F3_0 G3_0 F3_1 G3_1 F3_2 G3_2 F4_0 G4_0 F4_1 G4_1 F4_2 G4_2 F5_0 G5_0 F5_1 G5_1 Z0 Z1 Z2 Z3 Z4 Z5
    replace A0_0 := At.below (A0_0) hbw12
    replace A0_1 := At.below (A0_1) hbw12
    replace A1_0 := At.below (A1_0) hbw12
    replace A1_1 := At.below (A1_1) hbw12
    replace A2_0 := At.below (A2_0) hbw12
    replace A2_1 := At.below (A2_1) hbw12
    replace A2_2 := At.below (A2_2) hbw12
    replace A3_0 := At.below (A3_0) hbw12
    replace A3_1 := At.below (A3_1) hbw12
    replace A3_2 := At.below (A3_2) hbw12
    replace A4_0 := At.below (A4_0) hbw12
    replace A4_1 := At.below (A4_1) hbw12
    replace A4_2 := At.below (A4_2) hbw12
    replace A5_0 := At.below (A5_0) hbw12
    replace A5_1 := At.below (A5_1) hbw12
    replace B := below_step B B.size (hbw12)
    clear hbw12
    have F0_0 := A0_0.1; have G0_0 := A0_0.2
    have F0_1 := A0_1.1; have G0_1 := A0_1.2
    have F1_0 := A1_0.1; have G1_0 := A1_0.2
    have F1_1 := A1_1.1; have G1_1 := A1_1.2
    have F2_0 := A2_0.1; have G2_0 := A2_0.2
    have F2_1 := A2_1.1; have G2_1 := A2_1.2
    have F2_2 := A2_2.1; have G2_2 := A2_2.2
    have F3_0 := A3_0.1; have G3_0 := A3_0.2
    have F3_1 := A3_1.1; have G3_1 := A3_1.2
    have F3_2 := A3_2.1; have G3_2 := A3_2.2
    have F4_0 := A4_0.1; have G4_0 := A4_0.2
    have F4_1 := A4_1.1; have G4_1 := A4_1.2
    have F4_2 := A4_2.1; have G4_2 := A4_2.2
    have F5_0 := A5_0.1; have G5_0 := A5_0.2
    have F5_1 := A5_1.1; have G5_1 := A5_1.2
    have Z0 := A0_0.lt
    have Z1 := A1_0.lt
    have Z2 := A2_0.lt
    have Z3 := A3_0.lt
    have Z4 := A4_0.lt
    have Z5 := A5_0.lt
    by_cases h6 : 6 ≤ o
    · have s4 := s3 h6
      go_wp2_with fail
      go_ret
      exact ⟨rfl, Below.alloc B B.size _⟩
    · go_wp2_with fail
      go_ret
      exact ⟨rfl, Below.alloc B B.size _⟩


end Go.Proofs.Yteephgpefhodnab
