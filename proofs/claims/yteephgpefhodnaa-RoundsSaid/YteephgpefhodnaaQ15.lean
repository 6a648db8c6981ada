/- The document's reals: beyond: roots. -/
import Derived.Test.YteephgpefhodnaaQ11
namespace Go.Proofs.Yteephgpefhodnaa
open Go.RowKit Go.Sort Go.Fl
set_option linter.unusedSimpArgs false
set_option linter.unusedVariables false

set_option maxRecDepth 4000 in
set_option maxHeartbeats 4000000 in
theorem beyond_sqrt (x y c : Nat) (hx : fin x) (hy : fin y) (hc : fin c) (wx : Wd x) (wy : Wd y) (wc : Wd c) (hs : 0 ≤ key c) (hnc : ¬ nan c) (w : World) :
    Calls Try.prog 88 #[.int .i64 3, .float .f64 x, .float .f64 y, .float .f64 c] w fun e w' => e = .returned (.int .i64 ((cSqrt (key x) (key c)).sign)) ∧ Below w.heap.size w w' := by
  have CX := Lib.hid (fun w => bigof_any x hx wx w)
  have CY := Lib.hid (fun w => bigof_any y hy wy w)
  have CC := Lib.hid (fun w => bigof_any (Op.negFloat .f64 c) (fin_fneg hc wc) (wd_neg wc) w)
  have kc := k_neg wc
  have Kc := Lib.hid kc
  clear kc
  go_enter Try.func88, Try.ntmps88
  go_wp2_with fail
  refine (CX.out _).mono ?_
  rintro e w1 ⟨⟨val, N1, E1, rfl, G1, lo1, hi1, v1⟩, hbw1⟩
  obtain ⟨s1, q1, ln1, c1, rfl⟩ := BigAt.shape G1
  have V1 := Lib.hid v1
  clear v1
  have B := hbw1
  clear hbw1
  go_wp2_with fail
  refine (CY.out _).mono ?_
  rintro e w2 ⟨⟨val, N2, E2, rfl, G2, lo2, hi2, v2⟩, hbw2⟩
  obtain ⟨s2, q2, ln2, c2, rfl⟩ := BigAt.shape G2
  have V2 := Lib.hid v2
  clear v2
  replace G1 := BigAt.below (BigAt.alloc (G1) _) hbw2
  have nB : w.heap.size ≤ w1.heap.size := B.size
  have A0_0 : At (World.alloc w1 (.cells #[.bool s1, .slice q1 ln1 c1, .int .i64 E1] 100)) (w1.heap.size) 0 (.bool s1) := ⟨by simp [go_sem], by simp [go_sem]⟩
  replace A0_0 := At.below A0_0 hbw2
  have A0_1 : At (World.alloc w1 (.cells #[.bool s1, .slice q1 ln1 c1, .int .i64 E1] 100)) (w1.heap.size) 1 (.slice q1 ln1 c1) := ⟨by simp [go_sem], by simp [go_sem]⟩
  replace A0_1 := At.below A0_1 hbw2
  have A0_2 : At (World.alloc w1 (.cells #[.bool s1, .slice q1 ln1 c1, .int .i64 E1] 100)) (w1.heap.size) 2 (.int .i64 E1) := ⟨by simp [go_sem], by simp [go_sem]⟩
  replace A0_2 := At.below A0_2 hbw2
  replace B := below_step B B.size (below_alloc (hbw2))
  clear hbw2
  have F0_0 := A0_0.1; have G0_0 := A0_0.2
  have F0_1 := A0_1.1; have G0_1 := A0_1.2
  have F0_2 := A0_2.1; have G0_2 := A0_2.2
  have Z0 := A0_0.lt
  go_wp2_with fail
  refine (CC.out _).mono ?_
  rintro e w3 ⟨⟨val, N3, E3, rfl, G3, lo3, hi3, v3⟩, hbw3⟩
  obtain ⟨s3, q3, ln3, c3, rfl⟩ := BigAt.shape G3
  have V3 := Lib.hid v3
  clear v3
  replace G1 := BigAt.below (BigAt.alloc (G1) _) hbw3
  replace G2 := BigAt.below (BigAt.alloc (G2) _) hbw3
  clear F0_0 G0_0 F0_1 G0_1 F0_2 G0_2 Z0
  have n1 : w1.heap.size < w2.heap.size := At.lt A0_2
  replace A0_0 := At.below (At.alloc (A0_0)) hbw3
  replace A0_1 := At.below (At.alloc (A0_1)) hbw3
  replace A0_2 := At.below (At.alloc (A0_2)) hbw3
  have A1_0 : At (World.alloc w2 (.cells #[.bool s2, .slice q2 ln2 c2, .int .i64 E2] 100)) (w2.heap.size) 0 (.bool s2) := ⟨by simp [go_sem], by simp [go_sem]⟩
  replace A1_0 := At.below A1_0 hbw3
  have A1_1 : At (World.alloc w2 (.cells #[.bool s2, .slice q2 ln2 c2, .int .i64 E2] 100)) (w2.heap.size) 1 (.slice q2 ln2 c2) := ⟨by simp [go_sem], by simp [go_sem]⟩
  replace A1_1 := At.below A1_1 hbw3
  have A1_2 : At (World.alloc w2 (.cells #[.bool s2, .slice q2 ln2 c2, .int .i64 E2] 100)) (w2.heap.size) 2 (.int .i64 E2) := ⟨by simp [go_sem], by simp [go_sem]⟩
  replace A1_2 := At.below A1_2 hbw3
  replace B := below_step B B.size (below_alloc (hbw3))
  clear hbw3
  have F0_0 := A0_0.1; have G0_0 := A0_0.2
  have F0_1 := A0_1.1; have G0_1 := A0_1.2
  have F0_2 := A0_2.1; have G0_2 := A0_2.2
  have F1_0 := A1_0.1; have G1_0 := A1_0.2
  have F1_1 := A1_1.1; have G1_1 := A1_1.2
  have F1_2 := A1_2.1; have G1_2 := A1_2.2
  have Z0 := A0_0.lt
  have Z1 := A1_0.lt
  clear CX CY CC
  go_wp2_with fail
  refine (bigtimes_any _ _ _ _ _ _ (by omega) (by omega) _ (BigAt.alloc (G3) _) (BigAt.alloc (G3) _)).mono ?_
  rintro e w4 ⟨⟨val, rfl, G4⟩, hbw4⟩
  obtain ⟨N4, hN4⟩ : ∃ N, N = N3 * N3 := ⟨_, rfl⟩
  obtain ⟨E4, hE4⟩ : ∃ E, E = E3 + E3 := ⟨_, rfl⟩
  rw [← hN4, ← hE4] at G4
  have HN4 := Lib.hid hN4
  have lo4 : -2148 ≤ E4 := by omega
  have hi4 : E4 ≤ 1942 := by omega
  have HE4 := Lib.hid hE4
  clear hN4 hE4
  obtain ⟨s4, q4, ln4, c4, rfl⟩ := BigAt.shape G4
  replace G1 := BigAt.below (BigAt.alloc (G1) _) hbw4
  replace G2 := BigAt.below (BigAt.alloc (G2) _) hbw4
  replace G3 := BigAt.below (BigAt.alloc (G3) _) hbw4
  clear F0_0 G0_0 F0_1 G0_1 F0_2 G0_2 F1_0 G1_0 F1_1 G1_1 F1_2 G1_2 Z0 Z1
  have n2 : w2.heap.size < w3.heap.size := At.lt A1_2
  replace A0_0 := At.below (At.alloc (A0_0)) hbw4
  replace A0_1 := At.below (At.alloc (A0_1)) hbw4
  replace A0_2 := At.below (At.alloc (A0_2)) hbw4
  replace A1_0 := At.below (At.alloc (A1_0)) hbw4
  replace A1_1 := At.below (At.alloc (A1_1)) hbw4
  replace A1_2 := At.below (At.alloc (A1_2)) hbw4
  have A2_0 : At (World.alloc w3 (.cells #[.bool s3, .slice q3 ln3 c3, .int .i64 E3] 100)) (w3.heap.size) 0 (.bool s3) := ⟨by simp [go_sem], by simp [go_sem]⟩
  replace A2_0 := At.below A2_0 hbw4
  have A2_1 : At (World.alloc w3 (.cells #[.bool s3, .slice q3 ln3 c3, .int .i64 E3] 100)) (w3.heap.size) 1 (.slice q3 ln3 c3) := ⟨by simp [go_sem], by simp [go_sem]⟩
  replace A2_1 := At.below A2_1 hbw4
  have A2_2 : At (World.alloc w3 (.cells #[.bool s3, .slice q3 ln3 c3, .int .i64 E3] 100)) (w3.heap.size) 2 (.int .i64 E3) := ⟨by simp [go_sem], by simp [go_sem]⟩
  replace A2_2 := At.below A2_2 hbw4
  replace B := below_step B B.size (below_alloc (hbw4))
  clear hbw4
  have F0_0 := A0_0.1; have G0_0 := A0_0.2
  have F0_1 := A0_1.1; have G0_1 := A0_1.2
  have F0_2 := A0_2.1; have G0_2 := A0_2.2
  have F1_0 := A1_0.1; have G1_0 := A1_0.2
  have F1_1 := A1_1.1; have G1_1 := A1_1.2
  have F1_2 := A1_2.1; have G1_2 := A1_2.2
  have F2_0 := A2_0.1; have G2_0 := A2_0.2
  have F2_1 := A2_1.1; have G2_1 := A2_1.2
  have F2_2 := A2_2.1; have G2_2 := A2_2.2
  have Z0 := A0_0.lt
  have Z1 := A1_0.lt
  have Z2 := A2_0.lt
  go_wp2_with fail
  refine (bigminus_any _ _ _ _ _ (BigAt.alloc (G4) _)).mono ?_
  rintro e w5 ⟨⟨val, rfl, G5⟩, hbw5⟩
  obtain ⟨N5, hN5⟩ : ∃ N, N = -N4 := ⟨_, rfl⟩
  obtain ⟨E5, hE5⟩ : ∃ E, E = E4 := ⟨_, rfl⟩
  rw [← hN5, ← hE5] at G5
  have HN5 := Lib.hid hN5
  have lo5 : -2148 ≤ E5 := by omega
  have hi5 : E5 ≤ 1942 := by omega
  have HE5 := Lib.hid hE5
  clear hN5 hE5
  obtain ⟨s5, q5, ln5, c5, rfl⟩ := BigAt.shape G5
  replace G1 := BigAt.below (BigAt.alloc (G1) _) hbw5
  replace G2 := BigAt.below (BigAt.alloc (G2) _) hbw5
  replace G3 := BigAt.below (BigAt.alloc (G3) _) hbw5
  replace G4 := BigAt.below (BigAt.alloc (G4) _) hbw5
  clear F0_0 G0_0 F0_1 G0_1 F0_2 G0_2 F1_0 G1_0 F1_1 G1_1 F1_2 G1_2 F2_0 G2_0 F2_1 G2_1 F2_2 G2_2 Z0 Z1 Z2
  have n3 : w3.heap.size < w4.heap.size := At.lt A2_2
  replace A0_0 := At.below (At.alloc (A0_0)) hbw5
  replace A0_1 := At.below (At.alloc (A0_1)) hbw5
  replace A0_2 := At.below (At.alloc (A0_2)) hbw5
  replace A1_0 := At.below (At.alloc (A1_0)) hbw5
  replace A1_1 := At.below (At.alloc (A1_1)) hbw5
  replace A1_2 := At.below (At.alloc (A1_2)) hbw5
  replace A2_0 := At.below (At.alloc (A2_0)) hbw5
  replace A2_1 := At.below (At.alloc (A2_1)) hbw5
  replace A2_2 := At.below (At.alloc (A2_2)) hbw5
  have A3_0 : At (World.alloc w4 (.cells #[.bool s4, .slice q4 ln4 c4, .int .i64 E4] 100)) (w4.heap.size) 0 (.bool s4) := ⟨by simp [go_sem], by simp [go_sem]⟩
  replace A3_0 := At.below A3_0 hbw5
  have A3_1 : At (World.alloc w4 (.cells #[.bool s4, .slice q4 ln4 c4, .int .i64 E4] 100)) (w4.heap.size) 1 (.slice q4 ln4 c4) := ⟨by simp [go_sem], by simp [go_sem]⟩
  replace A3_1 := At.below A3_1 hbw5
  have A3_2 : At (World.alloc w4 (.cells #[.bool s4, .slice q4 ln4 c4, .int .i64 E4] 100)) (w4.heap.size) 2 (.int .i64 E4) := ⟨by simp [go_sem], by simp [go_sem]⟩
  replace A3_2 := At.below A3_2 hbw5
  replace B := below_step B B.size (below_alloc (hbw5))
  clear hbw5
  have F0_0 := A0_0.1; have G0_0 := A0_0.2
  have F0_1 := A0_1.1; have G0_1 := A0_1.2
  have F0_2 := A0_2.1; have G0_2 := A0_2.2
  have F1_0 := A1_0.1; have G1_0 := A1_0.2
  have F1_1 := A1_1.1; have G1_1 := A1_1.2
  have F1_2 := A1_2.1; have G1_2 := A1_2.2
  have F2_0 := A2_0.1; have G2_0 := A2_0.2
  have F2_1 := A2_1.1; have G2_1 := A2_1.2
  have F2_2 := A2_2.1; have G2_2 := A2_2.2
  have F3_0 := A3_0.1; have G3_0 := A3_0.2
  have F3_1 := A3_1.1; have G3_1 := A3_1.2
  have F3_2 := A3_2.1; have G3_2 := A3_2.2
  have Z0 := A0_0.lt
  have Z1 := A1_0.lt
  have Z2 := A2_0.lt
  have Z3 := A3_0.lt
  go_wp2_with fail
  refine (bigplus_any _ _ _ _ _ _ 106 4000 (by omega) (by omega) (by omega) (by omega) (by decide) _ (BigAt.alloc (BigAt.more G1 (by decide)) _) (BigAt.alloc (BigAt.more G5 (by decide)) _)).mono ?_
  rintro e w6 ⟨⟨val, N6, E6, rfl, G6, hE6, v6⟩, hbw6⟩
  obtain ⟨s6, q6, ln6, c6, rfl⟩ := BigAt.shape G6
  have V6 := Lib.hid v6
  have lo6 : -2148 ≤ E6 := by omega
  have hi6 : E6 ≤ 1942 := by omega
  clear v6 hE6
  replace G1 := BigAt.below (BigAt.alloc (G1) _) hbw6
  replace G2 := BigAt.below (BigAt.alloc (G2) _) hbw6
  replace G3 := BigAt.below (BigAt.alloc (G3) _) hbw6
  replace G4 := BigAt.below (BigAt.alloc (G4) _) hbw6
  replace G5 := BigAt.below (BigAt.alloc (G5) _) hbw6
  clear F0_0 G0_0 F0_1 G0_1 F0_2 G0_2 F1_0 G1_0 F1_1 G1_1 F1_2 G1_2 F2_0 G2_0 F2_1 G2_1 F2_2 G2_2 F3_0 G3_0 F3_1 G3_1 F3_2 G3_2 Z0 Z1 Z2 Z3
  have n4 : w4.heap.size < w5.heap.size := At.lt A3_2
  replace A0_0 := At.below (At.alloc (A0_0)) hbw6
  replace A0_1 := At.below (At.alloc (A0_1)) hbw6
  replace A0_2 := At.below (At.alloc (A0_2)) hbw6
  replace A1_0 := At.below (At.alloc (A1_0)) hbw6
  replace A1_1 := At.below (At.alloc (A1_1)) hbw6
  replace A1_2 := At.below (At.alloc (A1_2)) hbw6
  replace A2_0 := At.below (At.alloc (A2_0)) hbw6
  replace A2_1 := At.below (At.alloc (A2_1)) hbw6
  replace A2_2 := At.below (At.alloc (A2_2)) hbw6
  replace A3_0 := At.below (At.alloc (A3_0)) hbw6
  replace A3_1 := At.below (At.alloc (A3_1)) hbw6
  replace A3_2 := At.below (At.alloc (A3_2)) hbw6
  have A4_0 : At (World.alloc w5 (.cells #[.bool s5, .slice q5 ln5 c5, .int .i64 E5] 100)) (w5.heap.size) 0 (.bool s5) := ⟨by simp [go_sem], by simp [go_sem]⟩
  replace A4_0 := At.below A4_0 hbw6
  have A4_1 : At (World.alloc w5 (.cells #[.bool s5, .slice q5 ln5 c5, .int .i64 E5] 100)) (w5.heap.size) 1 (.slice q5 ln5 c5) := ⟨by simp [go_sem], by simp [go_sem]⟩
  replace A4_1 := At.below A4_1 hbw6
  have A4_2 : At (World.alloc w5 (.cells #[.bool s5, .slice q5 ln5 c5, .int .i64 E5] 100)) (w5.heap.size) 2 (.int .i64 E5) := ⟨by simp [go_sem], by simp [go_sem]⟩
  replace A4_2 := At.below A4_2 hbw6
  replace B := below_step B B.size (below_alloc (hbw6))
  clear hbw6
  have F0_0 := A0_0.1; have G0_0 := A0_0.2
  have F0_1 := A0_1.1; have G0_1 := A0_1.2
  have F0_2 := A0_2.1; have G0_2 := A0_2.2
  have F1_0 := A1_0.1; have G1_0 := A1_0.2
  have F1_1 := A1_1.1; have G1_1 := A1_1.2
  have F1_2 := A1_2.1; have G1_2 := A1_2.2
  have F2_0 := A2_0.1; have G2_0 := A2_0.2
  have F2_1 := A2_1.1; have G2_1 := A2_1.2
  have F2_2 := A2_2.1; have G2_2 := A2_2.2
  have F3_0 := A3_0.1; have G3_0 := A3_0.2
  have F3_1 := A3_1.1; have G3_1 := A3_1.2
  have F3_2 := A3_2.1; have G3_2 := A3_2.2
  have F4_0 := A4_0.1; have G4_0 := A4_0.2
  have F4_1 := A4_1.1; have G4_1 := A4_1.2
  have F4_2 := A4_2.1; have G4_2 := A4_2.2
  have Z0 := A0_0.lt
  have Z1 := A1_0.lt
  have Z2 := A2_0.lt
  have Z3 := A3_0.lt
  have Z4 := A4_0.lt
  go_wp2_with fail
  refine (bigsign_any _ _ _ _ _ (BigAt.alloc (G6) _)).mono ?_
  rintro e w7 ⟨rfl, hbw7⟩
  replace G1 := BigAt.below (BigAt.alloc (G1) _) hbw7
  replace G2 := BigAt.below (BigAt.alloc (G2) _) hbw7
  replace G3 := BigAt.below (BigAt.alloc (G3) _) hbw7
  replace G4 := BigAt.below (BigAt.alloc (G4) _) hbw7
  replace G5 := BigAt.below (BigAt.alloc (G5) _) hbw7
  replace G6 := BigAt.below (BigAt.alloc (G6) _) hbw7
  clear F0_0 G0_0 F0_1 G0_1 F0_2 G0_2 F1_0 G1_0 F1_1 G1_1 F1_2 G1_2 F2_0 G2_0 F2_1 G2_1 F2_2 G2_2 F3_0 G3_0 F3_1 G3_1 F3_2 G3_2 F4_0 G4_0 F4_1 G4_1 F4_2 G4_2 Z0 Z1 Z2 Z3 Z4
  have n5 : w5.heap.size < w6.heap.size := At.lt A4_2
  replace A0_0 := At.below (At.alloc (A0_0)) hbw7
  replace A0_1 := At.below (At.alloc (A0_1)) hbw7
  replace A0_2 := At.below (At.alloc (A0_2)) hbw7
  replace A1_0 := At.below (At.alloc (A1_0)) hbw7
  replace A1_1 := At.below (At.alloc (A1_1)) hbw7
  replace A1_2 := At.below (At.alloc (A1_2)) hbw7
  replace A2_0 := At.below (At.alloc (A2_0)) hbw7
  replace A2_1 := At.below (At.alloc (A2_1)) hbw7
  replace A2_2 := At.below (At.alloc (A2_2)) hbw7
  replace A3_0 := At.below (At.alloc (A3_0)) hbw7
  replace A3_1 := At.below (At.alloc (A3_1)) hbw7
  replace A3_2 := At.below (At.alloc (A3_2)) hbw7
  replace A4_0 := At.below (At.alloc (A4_0)) hbw7
  replace A4_1 := At.below (At.alloc (A4_1)) hbw7
  replace A4_2 := At.below (At.alloc (A4_2)) hbw7
  have A5_0 : At (World.alloc w6 (.cells #[.bool s6, .slice q6 ln6 c6, .int .i64 E6] 100)) (w6.heap.size) 0 (.bool s6) := ⟨by simp [go_sem], by simp [go_sem]⟩
  replace A5_0 := At.below A5_0 hbw7
  have A5_1 : At (World.alloc w6 (.cells #[.bool s6, .slice q6 ln6 c6, .int .i64 E6] 100)) (w6.heap.size) 1 (.slice q6 ln6 c6) := ⟨by simp [go_sem], by simp [go_sem]⟩
  replace A5_1 := At.below A5_1 hbw7
  have A5_2 : At (World.alloc w6 (.cells #[.bool s6, .slice q6 ln6 c6, .int .i64 E6] 100)) (w6.heap.size) 2 (.int .i64 E6) := ⟨by simp [go_sem], by simp [go_sem]⟩
  replace A5_2 := At.below A5_2 hbw7
  replace B := below_step B B.size (below_alloc (hbw7))
  clear hbw7
  have F0_0 := A0_0.1; have G0_0 := A0_0.2
  have F0_1 := A0_1.1; have G0_1 := A0_1.2
  have F0_2 := A0_2.1; have G0_2 := A0_2.2
  have F1_0 := A1_0.1; have G1_0 := A1_0.2
  have F1_1 := A1_1.1; have G1_1 := A1_1.2
  have F1_2 := A1_2.1; have G1_2 := A1_2.2
  have F2_0 := A2_0.1; have G2_0 := A2_0.2
  have F2_1 := A2_1.1; have G2_1 := A2_1.2
  have F2_2 := A2_2.1; have G2_2 := A2_2.2
  have F3_0 := A3_0.1; have G3_0 := A3_0.2
  have F3_1 := A3_1.1; have G3_1 := A3_1.2
  have F3_2 := A3_2.1; have G3_2 := A3_2.2
  have F4_0 := A4_0.1; have G4_0 := A4_0.2
  have F4_1 := A4_1.1; have G4_1 := A4_1.2
  have F4_2 := A4_2.1; have G4_2 := A4_2.2
  have F5_0 := A5_0.1; have G5_0 := A5_0.2
  have F5_1 := A5_1.1; have G5_1 := A5_1.2
  have F5_2 := A5_2.1; have G5_2 := A5_2.2
  have Z0 := A0_0.lt
  have Z1 := A1_0.lt
  have Z2 := A2_0.lt
  have Z3 := A3_0.lt
  have Z4 := A4_0.lt
  have Z5 := A5_0.lt
  have r := V6.out 2148 (by omega) (by omega)
  rw [HN5.out, HE5.out, Int.neg_mul, HN4.out, HE4.out, mul_pow V3.out V3.out lo3 lo3, two_pow V1.out lo1, Kc.out, V_neg] at r
  have hr : N6.sign = (cSqrt (key x) (key c)).sign := sign_scaled (r.trans (by unfold cSqrt; rw [if_neg (by omega), Int.neg_mul, Int.mul_neg]; omega))
  go_wp2_with fail
  go_ret
  exact ⟨rfl, B⟩
end Go.Proofs.Yteephgpefhodnaa
