/- Package deco: Do. -/
import Derived.Test.YteephgpefhodnabD2
namespace Go.Proofs.Yteephgpefhodnab
open Go.RowKit Go.Sort Go.Fl
set_option linter.unusedSimpArgs false
set_option linter.unusedVariables false

@[go_sem] theorem min2_if (x y : Int) : (if y < x then y else x) = min x y := by split <;> omega
set_option maxHeartbeats 4000000 in
theorem do_none (o : Int) (a b a2 b2 : Nat) (d d2 : Int) (A Bh C D m n : Int) (rA : Rg A) (rB : Rg Bh) (rC : Rg C) (rD : Rg D) 
    (hNA : ∀ w, Calls Try.prog 20 #[.int .i64 o] w fun e w' => e = .returned (.int .i64 0) ∧ Below w.heap.size w w')
    (hOA : ∀ w, Calls Try.prog 11 #[.agg #[.float .f64 (a), .float .f64 (b)], .int .i64 d] w fun e w' => e = .returned (.agg #[.float .f64 (ofKey (A)), .float .f64 (ofKey (Bh)), .int .i64 (m)]) ∧ Below w.heap.size w w')
    (hOB : ∀ w, Calls Try.prog 11 #[.agg #[.float .f64 (a2), .float .f64 (b2)], .int .i64 d2] w fun e w' => e = .returned (.agg #[.float .f64 (ofKey (C)), .float .f64 (ofKey (D)), .int .i64 (n)]) ∧ Below w.heap.size w w') (w : World) :
    Calls Try.prog 12 #[.int .i64 o, .agg #[.float .f64 (a), .float .f64 (b), .int .i64 (d)], .agg #[.float .f64 (a2), .float .f64 (b2), .int .i64 (d2)]] w fun e w' => e = .returned (.agg #[.float .f64 (ofKey (PI)), .float .f64 (ofKey (-PI)), .int .i64 (0)]) ∧ Below w.heap.size w w' := by
  have NA := Lib.hid hNA
  have OA := Lib.hid hOA
  have OB := Lib.hid hOB
  clear hNA hOA hOB
  go_enter Try.func12, Try.ntmps12
  go_wp2_with fail
  refine (NA.out _).mono ?_
  rintro e w1 ⟨rfl, hbw1⟩
  obtain ⟨L0, hL0⟩ : ∃ L0, L0 = (World.alloc (World.alloc (World.alloc w (.cells #[.float .f64 (a), .float .f64 (b), .int .i64 (d)] 31)) (.cells #[.float .f64 (a2), .float .f64 (b2), .int .i64 (d2)] 31)) (.cells #[.float .f64 (0), .float .f64 (0), .int .i64 (0)] 31)) := ⟨_, rfl⟩
  have A0_0 : At L0 (w.heap.size) 0 (.float .f64 (a)) := by rw [hL0]; exact ⟨by simp [go_sem], by simp [go_sem]⟩
  have A0_1 : At L0 (w.heap.size) 1 (.float .f64 (b)) := by rw [hL0]; exact ⟨by simp [go_sem], by simp [go_sem]⟩
  have A0_2 : At L0 (w.heap.size) 2 (.int .i64 (d)) := by rw [hL0]; exact ⟨by simp [go_sem], by simp [go_sem]⟩
  have A1_0 : At L0 (w.heap.size + 1) 0 (.float .f64 (a2)) := by rw [hL0]; exact ⟨by simp [go_sem], by simp [go_sem]⟩
  have A1_1 : At L0 (w.heap.size + 1) 1 (.float .f64 (b2)) := by rw [hL0]; exact ⟨by simp [go_sem], by simp [go_sem]⟩
  have A1_2 : At L0 (w.heap.size + 1) 2 (.int .i64 (d2)) := by rw [hL0]; exact ⟨by simp [go_sem], by simp [go_sem]⟩
  have A2_0 : At L0 (w.heap.size + 1 + 1) 0 (.float .f64 (0)) := by rw [hL0]; exact ⟨by simp [go_sem], by simp [go_sem]⟩
  have A2_1 : At L0 (w.heap.size + 1 + 1) 1 (.float .f64 (0)) := by rw [hL0]; exact ⟨by simp [go_sem], by simp [go_sem]⟩
  have A2_2 : At L0 (w.heap.size + 1 + 1) 2 (.int .i64 (0)) := by rw [hL0]; exact ⟨by simp [go_sem], by simp [go_sem]⟩
  subst hL0
  replace A0_0 := At.below (A0_0) hbw1
  replace A0_1 := At.below (A0_1) hbw1
  replace A0_2 := At.below (A0_2) hbw1
  replace A1_0 := At.below (A1_0) hbw1
  replace A1_1 := At.below (A1_1) hbw1
  replace A1_2 := At.below (A1_2) hbw1
  replace A2_0 := At.below (A2_0) hbw1
  replace A2_1 := At.below (A2_1) hbw1
  replace A2_2 := At.below (A2_2) hbw1
  have B := below_alloc (below_alloc (below_alloc (hbw1)))
  clear hbw1
  have F0_0 := A0_0.1; have G0_0 := A0_0.2
  have F0_1 := A0_1.1; have G0_1 := A0_1.2
  have F0_2 := A0_2.1; have G0_2 := A0_2.2
  have F1_0 := A1_0.1; have G1_0 := A1_0.2
  have F1_1 := A1_1.1; have G1_1 := A1_1.2
  have F1_2 := A1_2.1; have G1_2 := A1_2.2
  have F2_0 := A2_0.1; have G2_0 := A2_0.2
  have F2_1 := A2_1.1; have G2_1 := A2_1.2
  have F2_2 := A2_2.1; have G2_2 := A2_2.2
  have Z0 := A0_0.lt
  have Z1 := A1_0.lt
  have Z2 := A2_0.lt
  go_wp2_with fail
  have k0_0 := cell_regrown A0_0.1
  have k0_1 := cell_regrown A0_1.1
  have k0_2 := cell_regrown A0_2.1
  have k1_0 := cell_regrown A1_0.1
  have k1_1 := cell_regrown A1_1.1
  have k1_2 := cell_regrown A1_2.1
  have k2_0 := cell_regrown A2_0.1
  have k2_1 := cell_regrown A2_1.1
  have k2_2 := cell_regrown A2_2.1
  refine wp_region_below_tail 10 (by kernel_rfl) (by kernel_rfl) ?_
  simp only [List.take_succ_cons, List.take_zero, List.drop_succ_cons, List.drop_zero]
  repeat (go_big_quiet_step ((first | (with_reducible exact Calls.regrown_of (OA.out _)) | (with_reducible exact Calls.regrown_of (OB.out _)))))
  refine wpQuiet_nil (fun w2 hbw2 => ?_)
  clear k0_0 k0_1 k0_2 k1_0 k1_1 k1_2 k2_0 k2_1 k2_2
  clear F0_0 G0_0 F0_1 G0_1 F0_2 G0_2 F1_0 G1_0 F1_1 G1_1 F1_2 G1_2 F2_0 G2_0 F2_1 G2_1 F2_2 G2_2 Z0 Z1 Z2
  replace A0_0 := At.below (A0_0) hbw2
  replace A0_1 := At.below (A0_1) hbw2
  replace A0_2 := At.below (A0_2) hbw2
  replace A1_0 := At.below (A1_0) hbw2
  replace A1_1 := At.below (A1_1) hbw2
  replace A1_2 := At.below (A1_2) hbw2
  replace A2_0 := At.below (A2_0) hbw2
  replace A2_1 := At.below (A2_1) hbw2
  replace A2_2 := At.below (A2_2) hbw2
  replace B := below_step B B.size (hbw2)
  clear hbw2
  have F0_0 := A0_0.1; have G0_0 := A0_0.2
  have F0_1 := A0_1.1; have G0_1 := A0_1.2
  have F0_2 := A0_2.1; have G0_2 := A0_2.2
  have F1_0 := A1_0.1; have G1_0 := A1_0.2
  have F1_1 := A1_1.1; have G1_1 := A1_1.2
  have F1_2 := A1_2.1; have G1_2 := A1_2.2
  have F2_0 := A2_0.1; have G2_0 := A2_0.2
  have F2_1 := A2_1.1; have G2_1 := A2_1.2
  have F2_2 := A2_2.1; have G2_2 := A2_2.2
  have Z0 := A0_0.lt
  have Z1 := A1_0.lt
  have Z2 := A2_0.lt
  iterate 8 go_step
  clear F0_0 G0_0 F0_1 G0_1 F0_2 G0_2 F1_0 G1_0 F1_1 G1_1 F1_2 G1_2 F2_0 G2_0 F2_1 G2_1 F2_2 G2_2 Z0 Z1 Z2
  replace A0_0 := At.set_same A0_0 (.float .f64 (ofKey (A)))
  replace A0_1 := At.set_off (f' := 0) A0_1 (by decide) (.float .f64 (ofKey (A)))
  replace A0_2 := At.set_off (f' := 0) A0_2 (by decide) (.float .f64 (ofKey (A)))
  replace A1_0 := At.set_blk (b' := w.heap.size) (f' := 0) A1_0 (by first | omega | (have := B.size; omega)) (.float .f64 (ofKey (A)))
  replace A1_1 := At.set_blk (b' := w.heap.size) (f' := 0) A1_1 (by first | omega | (have := B.size; omega)) (.float .f64 (ofKey (A)))
  replace A1_2 := At.set_blk (b' := w.heap.size) (f' := 0) A1_2 (by first | omega | (have := B.size; omega)) (.float .f64 (ofKey (A)))
  replace A2_0 := At.set_blk (b' := w.heap.size) (f' := 0) A2_0 (by first | omega | (have := B.size; omega)) (.float .f64 (ofKey (A)))
  replace A2_1 := At.set_blk (b' := w.heap.size) (f' := 0) A2_1 (by first | omega | (have := B.size; omega)) (.float .f64 (ofKey (A)))
  replace A2_2 := At.set_blk (b' := w.heap.size) (f' := 0) A2_2 (by first | omega | (have := B.size; omega)) (.float .f64 (ofKey (A)))
  replace A0_0 := At.set_off (f' := 1) A0_0 (by decide) (.float .f64 (ofKey (Bh)))
  replace A0_1 := At.set_same A0_1 (.float .f64 (ofKey (Bh)))
  replace A0_2 := At.set_off (f' := 1) A0_2 (by decide) (.float .f64 (ofKey (Bh)))
  replace A1_0 := At.set_blk (b' := w.heap.size) (f' := 1) A1_0 (by first | omega | (have := B.size; omega)) (.float .f64 (ofKey (Bh)))
  replace A1_1 := At.set_blk (b' := w.heap.size) (f' := 1) A1_1 (by first | omega | (have := B.size; omega)) (.float .f64 (ofKey (Bh)))
  replace A1_2 := At.set_blk (b' := w.heap.size) (f' := 1) A1_2 (by first | omega | (have := B.size; omega)) (.float .f64 (ofKey (Bh)))
  replace A2_0 := At.set_blk (b' := w.heap.size) (f' := 1) A2_0 (by first | omega | (have := B.size; omega)) (.float .f64 (ofKey (Bh)))
  replace A2_1 := At.set_blk (b' := w.heap.size) (f' := 1) A2_1 (by first | omega | (have := B.size; omega)) (.float .f64 (ofKey (Bh)))
  replace A2_2 := At.set_blk (b' := w.heap.size) (f' := 1) A2_2 (by first | omega | (have := B.size; omega)) (.float .f64 (ofKey (Bh)))
  replace A0_0 := At.set_off (f' := 2) A0_0 (by decide) (.int .i64 (m))
  replace A0_1 := At.set_off (f' := 2) A0_1 (by decide) (.int .i64 (m))
  replace A0_2 := At.set_same A0_2 (.int .i64 (m))
  replace A1_0 := At.set_blk (b' := w.heap.size) (f' := 2) A1_0 (by first | omega | (have := B.size; omega)) (.int .i64 (m))
  replace A1_1 := At.set_blk (b' := w.heap.size) (f' := 2) A1_1 (by first | omega | (have := B.size; omega)) (.int .i64 (m))
  replace A1_2 := At.set_blk (b' := w.heap.size) (f' := 2) A1_2 (by first | omega | (have := B.size; omega)) (.int .i64 (m))
  replace A2_0 := At.set_blk (b' := w.heap.size) (f' := 2) A2_0 (by first | omega | (have := B.size; omega)) (.int .i64 (m))
  replace A2_1 := At.set_blk (b' := w.heap.size) (f' := 2) A2_1 (by first | omega | (have := B.size; omega)) (.int .i64 (m))
  replace A2_2 := At.set_blk (b' := w.heap.size) (f' := 2) A2_2 (by first | omega | (have := B.size; omega)) (.int .i64 (m))
  replace A0_0 := At.set_blk (b' := w.heap.size + 1) (f' := 0) A0_0 (by first | omega | (have := B.size; omega)) (.float .f64 (ofKey (C)))
  replace A0_1 := At.set_blk (b' := w.heap.size + 1) (f' := 0) A0_1 (by first | omega | (have := B.size; omega)) (.float .f64 (ofKey (C)))
  replace A0_2 := At.set_blk (b' := w.heap.size + 1) (f' := 0) A0_2 (by first | omega | (have := B.size; omega)) (.float .f64 (ofKey (C)))
  replace A1_0 := At.set_same A1_0 (.float .f64 (ofKey (C)))
  replace A1_1 := At.set_off (f' := 0) A1_1 (by decide) (.float .f64 (ofKey (C)))
  replace A1_2 := At.set_off (f' := 0) A1_2 (by decide) (.float .f64 (ofKey (C)))
  replace A2_0 := At.set_blk (b' := w.heap.size + 1) (f' := 0) A2_0 (by first | omega | (have := B.size; omega)) (.float .f64 (ofKey (C)))
  replace A2_1 := At.set_blk (b' := w.heap.size + 1) (f' := 0) A2_1 (by first | omega | (have := B.size; omega)) (.float .f64 (ofKey (C)))
  replace A2_2 := At.set_blk (b' := w.heap.size + 1) (f' := 0) A2_2 (by first | omega | (have := B.size; omega)) (.float .f64 (ofKey (C)))
  replace A0_0 := At.set_blk (b' := w.heap.size + 1) (f' := 1) A0_0 (by first | omega | (have := B.size; omega)) (.float .f64 (ofKey (D)))
  replace A0_1 := At.set_blk (b' := w.heap.size + 1) (f' := 1) A0_1 (by first | omega | (have := B.size; omega)) (.float .f64 (ofKey (D)))
  replace A0_2 := At.set_blk (b' := w.heap.size + 1) (f' := 1) A0_2 (by first | omega | (have := B.size; omega)) (.float .f64 (ofKey (D)))
  replace A1_0 := At.set_off (f' := 1) A1_0 (by decide) (.float .f64 (ofKey (D)))
  replace A1_1 := At.set_same A1_1 (.float .f64 (ofKey (D)))
  replace A1_2 := At.set_off (f' := 1) A1_2 (by decide) (.float .f64 (ofKey (D)))
  replace A2_0 := At.set_blk (b' := w.heap.size + 1) (f' := 1) A2_0 (by first | omega | (have := B.size; omega)) (.float .f64 (ofKey (D)))
  replace A2_1 := At.set_blk (b' := w.heap.size + 1) (f' := 1) A2_1 (by first | omega | (have := B.size; omega)) (.float .f64 (ofKey (D)))
  replace A2_2 := At.set_blk (b' := w.heap.size + 1) (f' := 1) A2_2 (by first | omega | (have := B.size; omega)) (.float .f64 (ofKey (D)))
  replace A0_0 := At.set_blk (b' := w.heap.size + 1) (f' := 2) A0_0 (by first | omega | (have := B.size; omega)) (.int .i64 (n))
  replace A0_1 := At.set_blk (b' := w.heap.size + 1) (f' := 2) A0_1 (by first | omega | (have := B.size; omega)) (.int .i64 (n))
  replace A0_2 := At.set_blk (b' := w.heap.size + 1) (f' := 2) A0_2 (by first | omega | (have := B.size; omega)) (.int .i64 (n))
  replace A1_0 := At.set_off (f' := 2) A1_0 (by decide) (.int .i64 (n))
  replace A1_1 := At.set_off (f' := 2) A1_1 (by decide) (.int .i64 (n))
  replace A1_2 := At.set_same A1_2 (.int .i64 (n))
  replace A2_0 := At.set_blk (b' := w.heap.size + 1) (f' := 2) A2_0 (by first | omega | (have := B.size; omega)) (.int .i64 (n))
  replace A2_1 := At.set_blk (b' := w.heap.size + 1) (f' := 2) A2_1 (by first | omega | (have := B.size; omega)) (.int .i64 (n))
  replace A2_2 := At.set_blk (b' := w.heap.size + 1) (f' := 2) A2_2 (by first | omega | (have := B.size; omega)) (.int .i64 (n))
  have B' : Below w.heap.size w (World.setCell (World.setCell (World.setCell (World.setCell (World.setCell (World.setCell w2 ⟨w.heap.size, 0, none⟩ (.float .f64 (ofKey (A)))) ⟨w.heap.size, 1, none⟩ (.float .f64 (ofKey (Bh)))) ⟨w.heap.size, 2, none⟩ (.int .i64 (m))) ⟨w.heap.size + 1, 0, none⟩ (.float .f64 (ofKey (C)))) ⟨w.heap.size + 1, 1, none⟩ (.float .f64 (ofKey (D)))) ⟨w.heap.size + 1, 2, none⟩ (.int .i64 (n))) := (Below.setCell (Below.setCell (Below.setCell (Below.setCell (Below.setCell (Below.setCell B (p := ⟨w.heap.size, 0, none⟩) (by first | (show w.heap.size ≤ w.heap.size; omega) | (have := B.size; show w.heap.size ≤ w.heap.size; omega)) (.float .f64 (ofKey (A)))) (p := ⟨w.heap.size, 1, none⟩) (by first | (show w.heap.size ≤ w.heap.size; omega) | (have := B.size; show w.heap.size ≤ w.heap.size; omega)) (.float .f64 (ofKey (Bh)))) (p := ⟨w.heap.size, 2, none⟩) (by first | (show w.heap.size ≤ w.heap.size; omega) | (have := B.size; show w.heap.size ≤ w.heap.size; omega)) (.int .i64 (m))) (p := ⟨w.heap.size + 1, 0, none⟩) (by first | (show w.heap.size ≤ w.heap.size + 1; omega) | (have := B.size; show w.heap.size ≤ w.heap.size + 1; omega)) (.float .f64 (ofKey (C)))) (p := ⟨w.heap.size + 1, 1, none⟩) (by first | (show w.heap.size ≤ w.heap.size + 1; omega) | (have := B.size; show w.heap.size ≤ w.heap.size + 1; omega)) (.float .f64 (ofKey (D)))) (p := ⟨w.heap.size + 1, 2, none⟩) (by first | (show w.heap.size ≤ w.heap.size + 1; omega) | (have := B.size; show w.heap.size ≤ w.heap.size + 1; omega)) (.int .i64 (n)))
  clear B
  obtain ⟨w3, hw3⟩ : ∃ w3, w3 = (World.setCell (World.setCell (World.setCell (World.setCell (World.setCell (World.setCell w2 ⟨w.heap.size, 0, none⟩ (.float .f64 (ofKey (A)))) ⟨w.heap.size, 1, none⟩ (.float .f64 (ofKey (Bh)))) ⟨w.heap.size, 2, none⟩ (.int .i64 (m))) ⟨w.heap.size + 1, 0, none⟩ (.float .f64 (ofKey (C)))) ⟨w.heap.size + 1, 1, none⟩ (.float .f64 (ofKey (D)))) ⟨w.heap.size + 1, 2, none⟩ (.int .i64 (n))) := ⟨_, rfl⟩
  rw [← hw3]
  replace A0_0 := At.of A0_0 hw3
  replace A0_1 := At.of A0_1 hw3
  replace A0_2 := At.of A0_2 hw3
  replace A1_0 := At.of A1_0 hw3
  replace A1_1 := At.of A1_1 hw3
  replace A1_2 := At.of A1_2 hw3
  replace A2_0 := At.of A2_0 hw3
  replace A2_1 := At.of A2_1 hw3
  replace A2_2 := At.of A2_2 hw3
  have B := below_of B' hw3
  clear B' hw3
  have F0_0 := A0_0.1; have G0_0 := A0_0.2
  have F0_1 := A0_1.1; have G0_1 := A0_1.2
  have F0_2 := A0_2.1; have G0_2 := A0_2.2
  have F1_0 := A1_0.1; have G1_0 := A1_0.2
  have F1_1 := A1_1.1; have G1_1 := A1_1.2
  have F1_2 := A1_2.1; have G1_2 := A1_2.2
  have F2_0 := A2_0.1; have G2_0 := A2_0.2
  have F2_1 := A2_1.1; have G2_1 := A2_1.2
  have F2_2 := A2_2.1; have G2_2 := A2_2.2
  have Z0 := A0_0.lt
  have Z1 := A1_0.lt
  have Z2 := A2_0.lt
  go_wp2_with fail
  refine (decoill_any _).mono ?_
  rintro e w4 ⟨rfl, hbw4⟩
  clear F0_0 G0_0 F0_1 G0_1 F0_2 G0_2 F1_0 G1_0 F1_1 G1_1 F1_2 G1_2 F2_0 G2_0 F2_1 G2_1 F2_2 G2_2 Z0 Z1 Z2
  replace A0_0 := At.below (A0_0) hbw4
  replace A0_1 := At.below (A0_1) hbw4
  replace A0_2 := At.below (A0_2) hbw4
  replace A1_0 := At.below (A1_0) hbw4
  replace A1_1 := At.below (A1_1) hbw4
  replace A1_2 := At.below (A1_2) hbw4
  replace A2_0 := At.below (A2_0) hbw4
  replace A2_1 := At.below (A2_1) hbw4
  replace A2_2 := At.below (A2_2) hbw4
  replace B := below_step B B.size (hbw4)
  clear hbw4
  have F0_0 := A0_0.1; have G0_0 := A0_0.2
  have F0_1 := A0_1.1; have G0_1 := A0_1.2
  have F0_2 := A0_2.1; have G0_2 := A0_2.2
  have F1_0 := A1_0.1; have G1_0 := A1_0.2
  have F1_1 := A1_1.1; have G1_1 := A1_1.2
  have F1_2 := A1_2.1; have G1_2 := A1_2.2
  have F2_0 := A2_0.1; have G2_0 := A2_0.2
  have F2_1 := A2_1.1; have G2_1 := A2_1.2
  have F2_2 := A2_2.1; have G2_2 := A2_2.2
  have Z0 := A0_0.lt
  have Z1 := A1_0.lt
  have Z2 := A2_0.lt
  go_wp2_with fail
  clear F0_0 G0_0 F0_1 G0_1 F0_2 G0_2 F1_0 G1_0 F1_1 G1_1 F1_2 G1_2 F2_0 G2_0 F2_1 G2_1 F2_2 G2_2 Z0 Z1 Z2
  replace A0_0 := At.set_blk (b' := w.heap.size + 1 + 1) (f' := 0) A0_0 (by first | omega | (have := B.size; omega)) (.float .f64 (ofKey (PI)))
  replace A0_1 := At.set_blk (b' := w.heap.size + 1 + 1) (f' := 0) A0_1 (by first | omega | (have := B.size; omega)) (.float .f64 (ofKey (PI)))
  replace A0_2 := At.set_blk (b' := w.heap.size + 1 + 1) (f' := 0) A0_2 (by first | omega | (have := B.size; omega)) (.float .f64 (ofKey (PI)))
  replace A1_0 := At.set_blk (b' := w.heap.size + 1 + 1) (f' := 0) A1_0 (by first | omega | (have := B.size; omega)) (.float .f64 (ofKey (PI)))
  replace A1_1 := At.set_blk (b' := w.heap.size + 1 + 1) (f' := 0) A1_1 (by first | omega | (have := B.size; omega)) (.float .f64 (ofKey (PI)))
  replace A1_2 := At.set_blk (b' := w.heap.size + 1 + 1) (f' := 0) A1_2 (by first | omega | (have := B.size; omega)) (.float .f64 (ofKey (PI)))
  replace A2_0 := At.set_same A2_0 (.float .f64 (ofKey (PI)))
  replace A2_1 := At.set_off (f' := 0) A2_1 (by decide) (.float .f64 (ofKey (PI)))
  replace A2_2 := At.set_off (f' := 0) A2_2 (by decide) (.float .f64 (ofKey (PI)))
  replace A0_0 := At.set_blk (b' := w.heap.size + 1 + 1) (f' := 1) A0_0 (by first | omega | (have := B.size; omega)) (.float .f64 (ofKey (-PI)))
  replace A0_1 := At.set_blk (b' := w.heap.size + 1 + 1) (f' := 1) A0_1 (by first | omega | (have := B.size; omega)) (.float .f64 (ofKey (-PI)))
  replace A0_2 := At.set_blk (b' := w.heap.size + 1 + 1) (f' := 1) A0_2 (by first | omega | (have := B.size; omega)) (.float .f64 (ofKey (-PI)))
  replace A1_0 := At.set_blk (b' := w.heap.size + 1 + 1) (f' := 1) A1_0 (by first | omega | (have := B.size; omega)) (.float .f64 (ofKey (-PI)))
  replace A1_1 := At.set_blk (b' := w.heap.size + 1 + 1) (f' := 1) A1_1 (by first | omega | (have := B.size; omega)) (.float .f64 (ofKey (-PI)))
  replace A1_2 := At.set_blk (b' := w.heap.size + 1 + 1) (f' := 1) A1_2 (by first | omega | (have := B.size; omega)) (.float .f64 (ofKey (-PI)))
  replace A2_0 := At.set_off (f' := 1) A2_0 (by decide) (.float .f64 (ofKey (-PI)))
  replace A2_1 := At.set_same A2_1 (.float .f64 (ofKey (-PI)))
  replace A2_2 := At.set_off (f' := 1) A2_2 (by decide) (.float .f64 (ofKey (-PI)))
  replace A0_0 := At.set_blk (b' := w.heap.size + 1 + 1) (f' := 2) A0_0 (by first | omega | (have := B.size; omega)) (.int .i64 (0))
  replace A0_1 := At.set_blk (b' := w.heap.size + 1 + 1) (f' := 2) A0_1 (by first | omega | (have := B.size; omega)) (.int .i64 (0))
  replace A0_2 := At.set_blk (b' := w.heap.size + 1 + 1) (f' := 2) A0_2 (by first | omega | (have := B.size; omega)) (.int .i64 (0))
  replace A1_0 := At.set_blk (b' := w.heap.size + 1 + 1) (f' := 2) A1_0 (by first | omega | (have := B.size; omega)) (.int .i64 (0))
  replace A1_1 := At.set_blk (b' := w.heap.size + 1 + 1) (f' := 2) A1_1 (by first | omega | (have := B.size; omega)) (.int .i64 (0))
  replace A1_2 := At.set_blk (b' := w.heap.size + 1 + 1) (f' := 2) A1_2 (by first | omega | (have := B.size; omega)) (.int .i64 (0))
  replace A2_0 := At.set_off (f' := 2) A2_0 (by decide) (.int .i64 (0))
  replace A2_1 := At.set_off (f' := 2) A2_1 (by decide) (.int .i64 (0))
  replace A2_2 := At.set_same A2_2 (.int .i64 (0))
  have B' : Below w.heap.size w (World.setCell (World.setCell (World.setCell w4 ⟨w.heap.size + 1 + 1, 0, none⟩ (.float .f64 (ofKey (PI)))) ⟨w.heap.size + 1 + 1, 1, none⟩ (.float .f64 (ofKey (-PI)))) ⟨w.heap.size + 1 + 1, 2, none⟩ (.int .i64 (0))) := (Below.setCell (Below.setCell (Below.setCell B (p := ⟨w.heap.size + 1 + 1, 0, none⟩) (by first | (show w.heap.size ≤ w.heap.size + 1 + 1; omega) | (have := B.size; show w.heap.size ≤ w.heap.size + 1 + 1; omega)) (.float .f64 (ofKey (PI)))) (p := ⟨w.heap.size + 1 + 1, 1, none⟩) (by first | (show w.heap.size ≤ w.heap.size + 1 + 1; omega) | (have := B.size; show w.heap.size ≤ w.heap.size + 1 + 1; omega)) (.float .f64 (ofKey (-PI)))) (p := ⟨w.heap.size + 1 + 1, 2, none⟩) (by first | (show w.heap.size ≤ w.heap.size + 1 + 1; omega) | (have := B.size; show w.heap.size ≤ w.heap.size + 1 + 1; omega)) (.int .i64 (0)))
  clear B
  obtain ⟨wz, hwz⟩ : ∃ wz, wz = (World.setCell (World.setCell (World.setCell w4 ⟨w.heap.size + 1 + 1, 0, none⟩ (.float .f64 (ofKey (PI)))) ⟨w.heap.size + 1 + 1, 1, none⟩ (.float .f64 (ofKey (-PI)))) ⟨w.heap.size + 1 + 1, 2, none⟩ (.int .i64 (0))) := ⟨_, rfl⟩
  rw [← hwz]
  replace A0_0 := At.of A0_0 hwz
  replace A0_1 := At.of A0_1 hwz
  replace A0_2 := At.of A0_2 hwz
  replace A1_0 := At.of A1_0 hwz
  replace A1_1 := At.of A1_1 hwz
  replace A1_2 := At.of A1_2 hwz
  replace A2_0 := At.of A2_0 hwz
  replace A2_1 := At.of A2_1 hwz
  replace A2_2 := At.of A2_2 hwz
  have B := below_of B' hwz
  clear B' hwz
  have F0_0 := A0_0.1; have G0_0 := A0_0.2
  have F0_1 := A0_1.1; have G0_1 := A0_1.2
  have F0_2 := A0_2.1; have G0_2 := A0_2.2
  have F1_0 := A1_0.1; have G1_0 := A1_0.2
  have F1_1 := A1_1.1; have G1_1 := A1_1.2
  have F1_2 := A1_2.1; have G1_2 := A1_2.2
  have F2_0 := A2_0.1; have G2_0 := A2_0.2
  have F2_1 := A2_1.1; have G2_1 := A2_1.2
  have F2_2 := A2_2.1; have G2_2 := A2_2.2
  have Z0 := A0_0.lt
  have Z1 := A1_0.lt
  have Z2 := A2_0.lt
  refine bodyPost_ret (v := .agg #[.float .f64 (ofKey (PI)), .float .f64 (ofKey (-PI)), .int .i64 (0)]) (by simp [results, Try.results12, go_sem, F2_0, F2_1, F2_2]) rfl ⟨rfl, ?_⟩
  exact B

set_option maxHeartbeats 4000000 in
theorem do_two_ill1 (o : Int) (a b a2 b2 : Nat) (d d2 : Int) (A Bh C D m n : Int) (rA : Rg A) (rB : Rg Bh) (rC : Rg C) (rD : Rg D) (he : m = 0)
    (hNA : ∀ w, Calls Try.prog 20 #[.int .i64 o] w fun e w' => e = .returned (.int .i64 2) ∧ Below w.heap.size w w')
    (hOA : ∀ w, Calls Try.prog 11 #[.agg #[.float .f64 (a), .float .f64 (b)], .int .i64 d] w fun e w' => e = .returned (.agg #[.float .f64 (ofKey (A)), .float .f64 (ofKey (Bh)), .int .i64 (m)]) ∧ Below w.heap.size w w')
    (hOB : ∀ w, Calls Try.prog 11 #[.agg #[.float .f64 (a2), .float .f64 (b2)], .int .i64 d2] w fun e w' => e = .returned (.agg #[.float .f64 (ofKey (C)), .float .f64 (ofKey (D)), .int .i64 (n)]) ∧ Below w.heap.size w w') (w : World) :
    Calls Try.prog 12 #[.int .i64 o, .agg #[.float .f64 (a), .float .f64 (b), .int .i64 (d)], .agg #[.float .f64 (a2), .float .f64 (b2), .int .i64 (d2)]] w fun e w' => e = .returned (.agg #[.float .f64 (ofKey (PI)), .float .f64 (ofKey (-PI)), .int .i64 (0)]) ∧ Below w.heap.size w w' := by
  have NA := Lib.hid hNA
  have OA := Lib.hid hOA
  have OB := Lib.hid hOB
  clear hNA hOA hOB
  subst he
  go_enter Try.func12, Try.ntmps12
  go_wp2_with fail
  refine (NA.out _).mono ?_
  rintro e w1 ⟨rfl, hbw1⟩
  obtain ⟨L0, hL0⟩ : ∃ L0, L0 = (World.alloc (World.alloc (World.alloc w (.cells #[.float .f64 (a), .float .f64 (b), .int .i64 (d)] 31)) (.cells #[.float .f64 (a2), .float .f64 (b2), .int .i64 (d2)] 31)) (.cells #[.float .f64 (0), .float .f64 (0), .int .i64 (0)] 31)) := ⟨_, rfl⟩
  have A0_0 : At L0 (w.heap.size) 0 (.float .f64 (a)) := by rw [hL0]; exact ⟨by simp [go_sem], by simp [go_sem]⟩
  have A0_1 : At L0 (w.heap.size) 1 (.float .f64 (b)) := by rw [hL0]; exact ⟨by simp [go_sem], by simp [go_sem]⟩
  have A0_2 : At L0 (w.heap.size) 2 (.int .i64 (d)) := by rw [hL0]; exact ⟨by simp [go_sem], by simp [go_sem]⟩
  have A1_0 : At L0 (w.heap.size + 1) 0 (.float .f64 (a2)) := by rw [hL0]; exact ⟨by simp [go_sem], by simp [go_sem]⟩
  have A1_1 : At L0 (w.heap.size + 1) 1 (.float .f64 (b2)) := by rw [hL0]; exact ⟨by simp [go_sem], by simp [go_sem]⟩
  have A1_2 : At L0 (w.heap.size + 1) 2 (.int .i64 (d2)) := by rw [hL0]; exact ⟨by simp [go_sem], by simp [go_sem]⟩
  have A2_0 : At L0 (w.heap.size + 1 + 1) 0 (.float .f64 (0)) := by rw [hL0]; exact ⟨by simp [go_sem], by simp [go_sem]⟩
  have A2_1 : At L0 (w.heap.size + 1 + 1) 1 (.float .f64 (0)) := by rw [hL0]; exact ⟨by simp [go_sem], by simp [go_sem]⟩
  have A2_2 : At L0 (w.heap.size + 1 + 1) 2 (.int .i64 (0)) := by rw [hL0]; exact ⟨by simp [go_sem], by simp [go_sem]⟩
  subst hL0
  replace A0_0 := At.below (A0_0) hbw1
  replace A0_1 := At.below (A0_1) hbw1
  replace A0_2 := At.below (A0_2) hbw1
  replace A1_0 := At.below (A1_0) hbw1
  replace A1_1 := At.below (A1_1) hbw1
  replace A1_2 := At.below (A1_2) hbw1
  replace A2_0 := At.below (A2_0) hbw1
  replace A2_1 := At.below (A2_1) hbw1
  replace A2_2 := At.below (A2_2) hbw1
  have B := below_alloc (below_alloc (below_alloc (hbw1)))
  clear hbw1
  have F0_0 := A0_0.1; have G0_0 := A0_0.2
  have F0_1 := A0_1.1; have G0_1 := A0_1.2
  have F0_2 := A0_2.1; have G0_2 := A0_2.2
  have F1_0 := A1_0.1; have G1_0 := A1_0.2
  have F1_1 := A1_1.1; have G1_1 := A1_1.2
  have F1_2 := A1_2.1; have G1_2 := A1_2.2
  have F2_0 := A2_0.1; have G2_0 := A2_0.2
  have F2_1 := A2_1.1; have G2_1 := A2_1.2
  have F2_2 := A2_2.1; have G2_2 := A2_2.2
  have Z0 := A0_0.lt
  have Z1 := A1_0.lt
  have Z2 := A2_0.lt
  go_wp2_with fail
  have k0_0 := cell_regrown A0_0.1
  have k0_1 := cell_regrown A0_1.1
  have k0_2 := cell_regrown A0_2.1
  have k1_0 := cell_regrown A1_0.1
  have k1_1 := cell_regrown A1_1.1
  have k1_2 := cell_regrown A1_2.1
  have k2_0 := cell_regrown A2_0.1
  have k2_1 := cell_regrown A2_1.1
  have k2_2 := cell_regrown A2_2.1
  refine wp_region_below_tail 10 (by kernel_rfl) (by kernel_rfl) ?_
  simp only [List.take_succ_cons, List.take_zero, List.drop_succ_cons, List.drop_zero]
  repeat (go_big_quiet_step ((first | (with_reducible exact Calls.regrown_of (OA.out _)) | (with_reducible exact Calls.regrown_of (OB.out _)))))
  refine wpQuiet_nil (fun w2 hbw2 => ?_)
  clear k0_0 k0_1 k0_2 k1_0 k1_1 k1_2 k2_0 k2_1 k2_2
  clear F0_0 G0_0 F0_1 G0_1 F0_2 G0_2 F1_0 G1_0 F1_1 G1_1 F1_2 G1_2 F2_0 G2_0 F2_1 G2_1 F2_2 G2_2 Z0 Z1 Z2
  replace A0_0 := At.below (A0_0) hbw2
  replace A0_1 := At.below (A0_1) hbw2
  replace A0_2 := At.below (A0_2) hbw2
  replace A1_0 := At.below (A1_0) hbw2
  replace A1_1 := At.below (A1_1) hbw2
  replace A1_2 := At.below (A1_2) hbw2
  replace A2_0 := At.below (A2_0) hbw2
  replace A2_1 := At.below (A2_1) hbw2
  replace A2_2 := At.below (A2_2) hbw2
  replace B := below_step B B.size (hbw2)
  clear hbw2
  have F0_0 := A0_0.1; have G0_0 := A0_0.2
  have F0_1 := A0_1.1; have G0_1 := A0_1.2
  have F0_2 := A0_2.1; have G0_2 := A0_2.2
  have F1_0 := A1_0.1; have G1_0 := A1_0.2
  have F1_1 := A1_1.1; have G1_1 := A1_1.2
  have F1_2 := A1_2.1; have G1_2 := A1_2.2
  have F2_0 := A2_0.1; have G2_0 := A2_0.2
  have F2_1 := A2_1.1; have G2_1 := A2_1.2
  have F2_2 := A2_2.1; have G2_2 := A2_2.2
  have Z0 := A0_0.lt
  have Z1 := A1_0.lt
  have Z2 := A2_0.lt
  iterate 8 go_step
  clear F0_0 G0_0 F0_1 G0_1 F0_2 G0_2 F1_0 G1_0 F1_1 G1_1 F1_2 G1_2 F2_0 G2_0 F2_1 G2_1 F2_2 G2_2 Z0 Z1 Z2
  replace A0_0 := At.set_same A0_0 (.float .f64 (ofKey (A)))
  replace A0_1 := At.set_off (f' := 0) A0_1 (by decide) (.float .f64 (ofKey (A)))
  replace A0_2 := At.set_off (f' := 0) A0_2 (by decide) (.float .f64 (ofKey (A)))
  replace A1_0 := At.set_blk (b' := w.heap.size) (f' := 0) A1_0 (by first | omega | (have := B.size; omega)) (.float .f64 (ofKey (A)))
  replace A1_1 := At.set_blk (b' := w.heap.size) (f' := 0) A1_1 (by first | omega | (have := B.size; omega)) (.float .f64 (ofKey (A)))
  replace A1_2 := At.set_blk (b' := w.heap.size) (f' := 0) A1_2 (by first | omega | (have := B.size; omega)) (.float .f64 (ofKey (A)))
  replace A2_0 := At.set_blk (b' := w.heap.size) (f' := 0) A2_0 (by first | omega | (have := B.size; omega)) (.float .f64 (ofKey (A)))
  replace A2_1 := At.set_blk (b' := w.heap.size) (f' := 0) A2_1 (by first | omega | (have := B.size; omega)) (.float .f64 (ofKey (A)))
  replace A2_2 := At.set_blk (b' := w.heap.size) (f' := 0) A2_2 (by first | omega | (have := B.size; omega)) (.float .f64 (ofKey (A)))
  replace A0_0 := At.set_off (f' := 1) A0_0 (by decide) (.float .f64 (ofKey (Bh)))
  replace A0_1 := At.set_same A0_1 (.float .f64 (ofKey (Bh)))
  replace A0_2 := At.set_off (f' := 1) A0_2 (by decide) (.float .f64 (ofKey (Bh)))
  replace A1_0 := At.set_blk (b' := w.heap.size) (f' := 1) A1_0 (by first | omega | (have := B.size; omega)) (.float .f64 (ofKey (Bh)))
  replace A1_1 := At.set_blk (b' := w.heap.size) (f' := 1) A1_1 (by first | omega | (have := B.size; omega)) (.float .f64 (ofKey (Bh)))
  replace A1_2 := At.set_blk (b' := w.heap.size) (f' := 1) A1_2 (by first | omega | (have := B.size; omega)) (.float .f64 (ofKey (Bh)))
  replace A2_0 := At.set_blk (b' := w.heap.size) (f' := 1) A2_0 (by first | omega | (have := B.size; omega)) (.float .f64 (ofKey (Bh)))
  replace A2_1 := At.set_blk (b' := w.heap.size) (f' := 1) A2_1 (by first | omega | (have := B.size; omega)) (.float .f64 (ofKey (Bh)))
  replace A2_2 := At.set_blk (b' := w.heap.size) (f' := 1) A2_2 (by first | omega | (have := B.size; omega)) (.float .f64 (ofKey (Bh)))
  replace A0_0 := At.set_off (f' := 2) A0_0 (by decide) (.int .i64 (0))
  replace A0_1 := At.set_off (f' := 2) A0_1 (by decide) (.int .i64 (0))
  replace A0_2 := At.set_same A0_2 (.int .i64 (0))
  replace A1_0 := At.set_blk (b' := w.heap.size) (f' := 2) A1_0 (by first | omega | (have := B.size; omega)) (.int .i64 (0))
  replace A1_1 := At.set_blk (b' := w.heap.size) (f' := 2) A1_1 (by first | omega | (have := B.size; omega)) (.int .i64 (0))
  replace A1_2 := At.set_blk (b' := w.heap.size) (f' := 2) A1_2 (by first | omega | (have := B.size; omega)) (.int .i64 (0))
  replace A2_0 := At.set_blk (b' := w.heap.size) (f' := 2) A2_0 (by first | omega | (have := B.size; omega)) (.int .i64 (0))
  replace A2_1 := At.set_blk (b' := w.heap.size) (f' := 2) A2_1 (by first | omega | (have := B.size; omega)) (.int .i64 (0))
  replace A2_2 := At.set_blk (b' := w.heap.size) (f' := 2) A2_2 (by first | omega | (have := B.size; omega)) (.int .i64 (0))
  replace A0_0 := At.set_blk (b' := w.heap.size + 1) (f' := 0) A0_0 (by first | omega | (have := B.size; omega)) (.float .f64 (ofKey (C)))
  replace A0_1 := At.set_blk (b' := w.heap.size + 1) (f' := 0) A0_1 (by first | omega | (have := B.size; omega)) (.float .f64 (ofKey (C)))
  replace A0_2 := At.set_blk (b' := w.heap.size + 1) (f' := 0) A0_2 (by first | omega | (have := B.size; omega)) (.float .f64 (ofKey (C)))
  replace A1_0 := At.set_same A1_0 (.float .f64 (ofKey (C)))
  replace A1_1 := At.set_off (f' := 0) A1_1 (by decide) (.float .f64 (ofKey (C)))
  replace A1_2 := At.set_off (f' := 0) A1_2 (by decide) (.float .f64 (ofKey (C)))
  replace A2_0 := At.set_blk (b' := w.heap.size + 1) (f' := 0) A2_0 (by first | omega | (have := B.size; omega)) (.float .f64 (ofKey (C)))
  replace A2_1 := At.set_blk (b' := w.heap.size + 1) (f' := 0) A2_1 (by first | omega | (have := B.size; omega)) (.float .f64 (ofKey (C)))
  replace A2_2 := At.set_blk (b' := w.heap.size + 1) (f' := 0) A2_2 (by first | omega | (have := B.size; omega)) (.float .f64 (ofKey (C)))
  replace A0_0 := At.set_blk (b' := w.heap.size + 1) (f' := 1) A0_0 (by first | omega | (have := B.size; omega)) (.float .f64 (ofKey (D)))
  replace A0_1 := At.set_blk (b' := w.heap.size + 1) (f' := 1) A0_1 (by first | omega | (have := B.size; omega)) (.float .f64 (ofKey (D)))
  replace A0_2 := At.set_blk (b' := w.heap.size + 1) (f' := 1) A0_2 (by first | omega | (have := B.size; omega)) (.float .f64 (ofKey (D)))
  replace A1_0 := At.set_off (f' := 1) A1_0 (by decide) (.float .f64 (ofKey (D)))
  replace A1_1 := At.set_same A1_1 (.float .f64 (ofKey (D)))
  replace A1_2 := At.set_off (f' := 1) A1_2 (by decide) (.float .f64 (ofKey (D)))
  replace A2_0 := At.set_blk (b' := w.heap.size + 1) (f' := 1) A2_0 (by first | omega | (have := B.size; omega)) (.float .f64 (ofKey (D)))
  replace A2_1 := At.set_blk (b' := w.heap.size + 1) (f' := 1) A2_1 (by first | omega | (have := B.size; omega)) (.float .f64 (ofKey (D)))
  replace A2_2 := At.set_blk (b' := w.heap.size + 1) (f' := 1) A2_2 (by first | omega | (have := B.size; omega)) (.float .f64 (ofKey (D)))
  replace A0_0 := At.set_blk (b' := w.heap.size + 1) (f' := 2) A0_0 (by first | omega | (have := B.size; omega)) (.int .i64 (n))
  replace A0_1 := At.set_blk (b' := w.heap.size + 1) (f' := 2) A0_1 (by first | omega | (have := B.size; omega)) (.int .i64 (n))
  replace A0_2 := At.set_blk (b' := w.heap.size + 1) (f' := 2) A0_2 (by first | omega | (have := B.size; omega)) (.int .i64 (n))
  replace A1_0 := At.set_off (f' := 2) A1_0 (by decide) (.int .i64 (n))
  replace A1_1 := At.set_off (f' := 2) A1_1 (by decide) (.int .i64 (n))
  replace A1_2 := At.set_same A1_2 (.int .i64 (n))
  replace A2_0 := At.set_blk (b' := w.heap.size + 1) (f' := 2) A2_0 (by first | omega | (have := B.size; omega)) (.int .i64 (n))
  replace A2_1 := At.set_blk (b' := w.heap.size + 1) (f' := 2) A2_1 (by first | omega | (have := B.size; omega)) (.int .i64 (n))
  replace A2_2 := At.set_blk (b' := w.heap.size + 1) (f' := 2) A2_2 (by first | omega | (have := B.size; omega)) (.int .i64 (n))
  have B' : Below w.heap.size w (World.setCell (World.setCell (World.setCell (World.setCell (World.setCell (World.setCell w2 ⟨w.heap.size, 0, none⟩ (.float .f64 (ofKey (A)))) ⟨w.heap.size, 1, none⟩ (.float .f64 (ofKey (Bh)))) ⟨w.heap.size, 2, none⟩ (.int .i64 (0))) ⟨w.heap.size + 1, 0, none⟩ (.float .f64 (ofKey (C)))) ⟨w.heap.size + 1, 1, none⟩ (.float .f64 (ofKey (D)))) ⟨w.heap.size + 1, 2, none⟩ (.int .i64 (n))) := (Below.setCell (Below.setCell (Below.setCell (Below.setCell (Below.setCell (Below.setCell B (p := ⟨w.heap.size, 0, none⟩) (by first | (show w.heap.size ≤ w.heap.size; omega) | (have := B.size; show w.heap.size ≤ w.heap.size; omega)) (.float .f64 (ofKey (A)))) (p := ⟨w.heap.size, 1, none⟩) (by first | (show w.heap.size ≤ w.heap.size; omega) | (have := B.size; show w.heap.size ≤ w.heap.size; omega)) (.float .f64 (ofKey (Bh)))) (p := ⟨w.heap.size, 2, none⟩) (by first | (show w.heap.size ≤ w.heap.size; omega) | (have := B.size; show w.heap.size ≤ w.heap.size; omega)) (.int .i64 (0))) (p := ⟨w.heap.size + 1, 0, none⟩) (by first | (show w.heap.size ≤ w.heap.size + 1; omega) | (have := B.size; show w.heap.size ≤ w.heap.size + 1; omega)) (.float .f64 (ofKey (C)))) (p := ⟨w.heap.size + 1, 1, none⟩) (by first | (show w.heap.size ≤ w.heap.size + 1; omega) | (have := B.size; show w.heap.size ≤ w.heap.size + 1; omega)) (.float .f64 (ofKey (D)))) (p := ⟨w.heap.size + 1, 2, none⟩) (by first | (show w.heap.size ≤ w.heap.size + 1; omega) | (have := B.size; show w.heap.size ≤ w.heap.size + 1; omega)) (.int .i64 (n)))
  clear B
  obtain ⟨w3, hw3⟩ : ∃ w3, w3 = (World.setCell (World.setCell (World.setCell (World.setCell (World.setCell (World.setCell w2 ⟨w.heap.size, 0, none⟩ (.float .f64 (ofKey (A)))) ⟨w.heap.size, 1, none⟩ (.float .f64 (ofKey (Bh)))) ⟨w.heap.size, 2, none⟩ (.int .i64 (0))) ⟨w.heap.size + 1, 0, none⟩ (.float .f64 (ofKey (C)))) ⟨w.heap.size + 1, 1, none⟩ (.float .f64 (ofKey (D)))) ⟨w.heap.size + 1, 2, none⟩ (.int .i64 (n))) := ⟨_, rfl⟩
  rw [← hw3]
  replace A0_0 := At.of A0_0 hw3
  replace A0_1 := At.of A0_1 hw3
  replace A0_2 := At.of A0_2 hw3
  replace A1_0 := At.of A1_0 hw3
  replace A1_1 := At.of A1_1 hw3
  replace A1_2 := At.of A1_2 hw3
  replace A2_0 := At.of A2_0 hw3
  replace A2_1 := At.of A2_1 hw3
  replace A2_2 := At.of A2_2 hw3
  have B := below_of B' hw3
  clear B' hw3
  have F0_0 := A0_0.1; have G0_0 := A0_0.2
  have F0_1 := A0_1.1; have G0_1 := A0_1.2
  have F0_2 := A0_2.1; have G0_2 := A0_2.2
  have F1_0 := A1_0.1; have G1_0 := A1_0.2
  have F1_1 := A1_1.1; have G1_1 := A1_1.2
  have F1_2 := A1_2.1; have G1_2 := A1_2.2
  have F2_0 := A2_0.1; have G2_0 := A2_0.2
  have F2_1 := A2_1.1; have G2_1 := A2_1.2
  have F2_2 := A2_2.1; have G2_2 := A2_2.2
  have Z0 := A0_0.lt
  have Z1 := A1_0.lt
  have Z2 := A2_0.lt
  go_wp2_with fail
  refine (decoill_any _).mono ?_
  rintro e w4 ⟨rfl, hbw4⟩
  clear F0_0 G0_0 F0_1 G0_1 F0_2 G0_2 F1_0 G1_0 F1_1 G1_1 F1_2 G1_2 F2_0 G2_0 F2_1 G2_1 F2_2 G2_2 Z0 Z1 Z2
  replace A0_0 := At.below (A0_0) hbw4
  replace A0_1 := At.below (A0_1) hbw4
  replace A0_2 := At.below (A0_2) hbw4
  replace A1_0 := At.below (A1_0) hbw4
  replace A1_1 := At.below (A1_1) hbw4
  replace A1_2 := At.below (A1_2) hbw4
  replace A2_0 := At.below (A2_0) hbw4
  replace A2_1 := At.below (A2_1) hbw4
  replace A2_2 := At.below (A2_2) hbw4
  replace B := below_step B B.size (hbw4)
  clear hbw4
  have F0_0 := A0_0.1; have G0_0 := A0_0.2
  have F0_1 := A0_1.1; have G0_1 := A0_1.2
  have F0_2 := A0_2.1; have G0_2 := A0_2.2
  have F1_0 := A1_0.1; have G1_0 := A1_0.2
  have F1_1 := A1_1.1; have G1_1 := A1_1.2
  have F1_2 := A1_2.1; have G1_2 := A1_2.2
  have F2_0 := A2_0.1; have G2_0 := A2_0.2
  have F2_1 := A2_1.1; have G2_1 := A2_1.2
  have F2_2 := A2_2.1; have G2_2 := A2_2.2
  have Z0 := A0_0.lt
  have Z1 := A1_0.lt
  have Z2 := A2_0.lt
  go_wp2_with fail
  clear F0_0 G0_0 F0_1 G0_1 F0_2 G0_2 F1_0 G1_0 F1_1 G1_1 F1_2 G1_2 F2_0 G2_0 F2_1 G2_1 F2_2 G2_2 Z0 Z1 Z2
  replace A0_0 := At.set_blk (b' := w.heap.size + 1 + 1) (f' := 0) A0_0 (by first | omega | (have := B.size; omega)) (.float .f64 (ofKey (PI)))
  replace A0_1 := At.set_blk (b' := w.heap.size + 1 + 1) (f' := 0) A0_1 (by first | omega | (have := B.size; omega)) (.float .f64 (ofKey (PI)))
  replace A0_2 := At.set_blk (b' := w.heap.size + 1 + 1) (f' := 0) A0_2 (by first | omega | (have := B.size; omega)) (.float .f64 (ofKey (PI)))
  replace A1_0 := At.set_blk (b' := w.heap.size + 1 + 1) (f' := 0) A1_0 (by first | omega | (have := B.size; omega)) (.float .f64 (ofKey (PI)))
  replace A1_1 := At.set_blk (b' := w.heap.size + 1 + 1) (f' := 0) A1_1 (by first | omega | (have := B.size; omega)) (.float .f64 (ofKey (PI)))
  replace A1_2 := At.set_blk (b' := w.heap.size + 1 + 1) (f' := 0) A1_2 (by first | omega | (have := B.size; omega)) (.float .f64 (ofKey (PI)))
  replace A2_0 := At.set_same A2_0 (.float .f64 (ofKey (PI)))
  replace A2_1 := At.set_off (f' := 0) A2_1 (by decide) (.float .f64 (ofKey (PI)))
  replace A2_2 := At.set_off (f' := 0) A2_2 (by decide) (.float .f64 (ofKey (PI)))
  replace A0_0 := At.set_blk (b' := w.heap.size + 1 + 1) (f' := 1) A0_0 (by first | omega | (have := B.size; omega)) (.float .f64 (ofKey (-PI)))
  replace A0_1 := At.set_blk (b' := w.heap.size + 1 + 1) (f' := 1) A0_1 (by first | omega | (have := B.size; omega)) (.float .f64 (ofKey (-PI)))
  replace A0_2 := At.set_blk (b' := w.heap.size + 1 + 1) (f' := 1) A0_2 (by first | omega | (have := B.size; omega)) (.float .f64 (ofKey (-PI)))
  replace A1_0 := At.set_blk (b' := w.heap.size + 1 + 1) (f' := 1) A1_0 (by first | omega | (have := B.size; omega)) (.float .f64 (ofKey (-PI)))
  replace A1_1 := At.set_blk (b' := w.heap.size + 1 + 1) (f' := 1) A1_1 (by first | omega | (have := B.size; omega)) (.float .f64 (ofKey (-PI)))
  replace A1_2 := At.set_blk (b' := w.heap.size + 1 + 1) (f' := 1) A1_2 (by first | omega | (have := B.size; omega)) (.float .f64 (ofKey (-PI)))
  replace A2_0 := At.set_off (f' := 1) A2_0 (by decide) (.float .f64 (ofKey (-PI)))
  replace A2_1 := At.set_same A2_1 (.float .f64 (ofKey (-PI)))
  replace A2_2 := At.set_off (f' := 1) A2_2 (by decide) (.float .f64 (ofKey (-PI)))
  replace A0_0 := At.set_blk (b' := w.heap.size + 1 + 1) (f' := 2) A0_0 (by first | omega | (have := B.size; omega)) (.int .i64 (0))
  replace A0_1 := At.set_blk (b' := w.heap.size + 1 + 1) (f' := 2) A0_1 (by first | omega | (have := B.size; omega)) (.int .i64 (0))
  replace A0_2 := At.set_blk (b' := w.heap.size + 1 + 1) (f' := 2) A0_2 (by first | omega | (have := B.size; omega)) (.int .i64 (0))
  replace A1_0 := At.set_blk (b' := w.heap.size + 1 + 1) (f' := 2) A1_0 (by first | omega | (have := B.size; omega)) (.int .i64 (0))
  replace A1_1 := At.set_blk (b' := w.heap.size + 1 + 1) (f' := 2) A1_1 (by first | omega | (have := B.size; omega)) (.int .i64 (0))
  replace A1_2 := At.set_blk (b' := w.heap.size + 1 + 1) (f' := 2) A1_2 (by first | omega | (have := B.size; omega)) (.int .i64 (0))
  replace A2_0 := At.set_off (f' := 2) A2_0 (by decide) (.int .i64 (0))
  replace A2_1 := At.set_off (f' := 2) A2_1 (by decide) (.int .i64 (0))
  replace A2_2 := At.set_same A2_2 (.int .i64 (0))
  have B' : Below w.heap.size w (World.setCell (World.setCell (World.setCell w4 ⟨w.heap.size + 1 + 1, 0, none⟩ (.float .f64 (ofKey (PI)))) ⟨w.heap.size + 1 + 1, 1, none⟩ (.float .f64 (ofKey (-PI)))) ⟨w.heap.size + 1 + 1, 2, none⟩ (.int .i64 (0))) := (Below.setCell (Below.setCell (Below.setCell B (p := ⟨w.heap.size + 1 + 1, 0, none⟩) (by first | (show w.heap.size ≤ w.heap.size + 1 + 1; omega) | (have := B.size; show w.heap.size ≤ w.heap.size + 1 + 1; omega)) (.float .f64 (ofKey (PI)))) (p := ⟨w.heap.size + 1 + 1, 1, none⟩) (by first | (show w.heap.size ≤ w.heap.size + 1 + 1; omega) | (have := B.size; show w.heap.size ≤ w.heap.size + 1 + 1; omega)) (.float .f64 (ofKey (-PI)))) (p := ⟨w.heap.size + 1 + 1, 2, none⟩) (by first | (show w.heap.size ≤ w.heap.size + 1 + 1; omega) | (have := B.size; show w.heap.size ≤ w.heap.size + 1 + 1; omega)) (.int .i64 (0)))
  clear B
  obtain ⟨wz, hwz⟩ : ∃ wz, wz = (World.setCell (World.setCell (World.setCell w4 ⟨w.heap.size + 1 + 1, 0, none⟩ (.float .f64 (ofKey (PI)))) ⟨w.heap.size + 1 + 1, 1, none⟩ (.float .f64 (ofKey (-PI)))) ⟨w.heap.size + 1 + 1, 2, none⟩ (.int .i64 (0))) := ⟨_, rfl⟩
  rw [← hwz]
  replace A0_0 := At.of A0_0 hwz
  replace A0_1 := At.of A0_1 hwz
  replace A0_2 := At.of A0_2 hwz
  replace A1_0 := At.of A1_0 hwz
  replace A1_1 := At.of A1_1 hwz
  replace A1_2 := At.of A1_2 hwz
  replace A2_0 := At.of A2_0 hwz
  replace A2_1 := At.of A2_1 hwz
  replace A2_2 := At.of A2_2 hwz
  have B := below_of B' hwz
  clear B' hwz
  have F0_0 := A0_0.1; have G0_0 := A0_0.2
  have F0_1 := A0_1.1; have G0_1 := A0_1.2
  have F0_2 := A0_2.1; have G0_2 := A0_2.2
  have F1_0 := A1_0.1; have G1_0 := A1_0.2
  have F1_1 := A1_1.1; have G1_1 := A1_1.2
  have F1_2 := A1_2.1; have G1_2 := A1_2.2
  have F2_0 := A2_0.1; have G2_0 := A2_0.2
  have F2_1 := A2_1.1; have G2_1 := A2_1.2
  have F2_2 := A2_2.1; have G2_2 := A2_2.2
  have Z0 := A0_0.lt
  have Z1 := A1_0.lt
  have Z2 := A2_0.lt
  refine bodyPost_ret (v := .agg #[.float .f64 (ofKey (PI)), .float .f64 (ofKey (-PI)), .int .i64 (0)]) (by simp [results, Try.results12, go_sem, F2_0, F2_1, F2_2]) rfl ⟨rfl, ?_⟩
  exact B

set_option maxHeartbeats 4000000 in
theorem do_two_ill2 (o : Int) (a b a2 b2 : Nat) (d d2 : Int) (A Bh C D m n : Int) (rA : Rg A) (rB : Rg Bh) (rC : Rg C) (rD : Rg D) (he : ¬ m = 0) (hf : n = 0)
    (hNA : ∀ w, Calls Try.prog 20 #[.int .i64 o] w fun e w' => e = .returned (.int .i64 2) ∧ Below w.heap.size w w')
    (hOA : ∀ w, Calls Try.prog 11 #[.agg #[.float .f64 (a), .float .f64 (b)], .int .i64 d] w fun e w' => e = .returned (.agg #[.float .f64 (ofKey (A)), .float .f64 (ofKey (Bh)), .int .i64 (m)]) ∧ Below w.heap.size w w')
    (hOB : ∀ w, Calls Try.prog 11 #[.agg #[.float .f64 (a2), .float .f64 (b2)], .int .i64 d2] w fun e w' => e = .returned (.agg #[.float .f64 (ofKey (C)), .float .f64 (ofKey (D)), .int .i64 (n)]) ∧ Below w.heap.size w w') (w : World) :
    Calls Try.prog 12 #[.int .i64 o, .agg #[.float .f64 (a), .float .f64 (b), .int .i64 (d)], .agg #[.float .f64 (a2), .float .f64 (b2), .int .i64 (d2)]] w fun e w' => e = .returned (.agg #[.float .f64 (ofKey (PI)), .float .f64 (ofKey (-PI)), .int .i64 (0)]) ∧ Below w.heap.size w w' := by
  have NA := Lib.hid hNA
  have OA := Lib.hid hOA
  have OB := Lib.hid hOB
  clear hNA hOA hOB
  have bm : (m == 0) = false := by simpa using he
  subst hf
  go_enter Try.func12, Try.ntmps12
  go_wp2_with fail
  refine (NA.out _).mono ?_
  rintro e w1 ⟨rfl, hbw1⟩
  obtain ⟨L0, hL0⟩ : ∃ L0, L0 = (World.alloc (World.alloc (World.alloc w (.cells #[.float .f64 (a), .float .f64 (b), .int .i64 (d)] 31)) (.cells #[.float .f64 (a2), .float .f64 (b2), .int .i64 (d2)] 31)) (.cells #[.float .f64 (0), .float .f64 (0), .int .i64 (0)] 31)) := ⟨_, rfl⟩
  have A0_0 : At L0 (w.heap.size) 0 (.float .f64 (a)) := by rw [hL0]; exact ⟨by simp [go_sem], by simp [go_sem]⟩
  have A0_1 : At L0 (w.heap.size) 1 (.float .f64 (b)) := by rw [hL0]; exact ⟨by simp [go_sem], by simp [go_sem]⟩
  have A0_2 : At L0 (w.heap.size) 2 (.int .i64 (d)) := by rw [hL0]; exact ⟨by simp [go_sem], by simp [go_sem]⟩
  have A1_0 : At L0 (w.heap.size + 1) 0 (.float .f64 (a2)) := by rw [hL0]; exact ⟨by simp [go_sem], by simp [go_sem]⟩
  have A1_1 : At L0 (w.heap.size + 1) 1 (.float .f64 (b2)) := by rw [hL0]; exact ⟨by simp [go_sem], by simp [go_sem]⟩
  have A1_2 : At L0 (w.heap.size + 1) 2 (.int .i64 (d2)) := by rw [hL0]; exact ⟨by simp [go_sem], by simp [go_sem]⟩
  have A2_0 : At L0 (w.heap.size + 1 + 1) 0 (.float .f64 (0)) := by rw [hL0]; exact ⟨by simp [go_sem], by simp [go_sem]⟩
  have A2_1 : At L0 (w.heap.size + 1 + 1) 1 (.float .f64 (0)) := by rw [hL0]; exact ⟨by simp [go_sem], by simp [go_sem]⟩
  have A2_2 : At L0 (w.heap.size + 1 + 1) 2 (.int .i64 (0)) := by rw [hL0]; exact ⟨by simp [go_sem], by simp [go_sem]⟩
  subst hL0
  replace A0_0 := At.below (A0_0) hbw1
  replace A0_1 := At.below (A0_1) hbw1
  replace A0_2 := At.below (A0_2) hbw1
  replace A1_0 := At.below (A1_0) hbw1
  replace A1_1 := At.below (A1_1) hbw1
  replace A1_2 := At.below (A1_2) hbw1
  replace A2_0 := At.below (A2_0) hbw1
  replace A2_1 := At.below (A2_1) hbw1
  replace A2_2 := At.below (A2_2) hbw1
  have B := below_alloc (below_alloc (below_alloc (hbw1)))
  clear hbw1
  have F0_0 := A0_0.1; have G0_0 := A0_0.2
  have F0_1 := A0_1.1; have G0_1 := A0_1.2
  have F0_2 := A0_2.1; have G0_2 := A0_2.2
  have F1_0 := A1_0.1; have G1_0 := A1_0.2
  have F1_1 := A1_1.1; have G1_1 := A1_1.2
  have F1_2 := A1_2.1; have G1_2 := A1_2.2
  have F2_0 := A2_0.1; have G2_0 := A2_0.2
  have F2_1 := A2_1.1; have G2_1 := A2_1.2
  have F2_2 := A2_2.1; have G2_2 := A2_2.2
  have Z0 := A0_0.lt
  have Z1 := A1_0.lt
  have Z2 := A2_0.lt
  go_wp2_with fail
  have k0_0 := cell_regrown A0_0.1
  have k0_1 := cell_regrown A0_1.1
  have k0_2 := cell_regrown A0_2.1
  have k1_0 := cell_regrown A1_0.1
  have k1_1 := cell_regrown A1_1.1
  have k1_2 := cell_regrown A1_2.1
  have k2_0 := cell_regrown A2_0.1
  have k2_1 := cell_regrown A2_1.1
  have k2_2 := cell_regrown A2_2.1
  refine wp_region_below_tail 10 (by kernel_rfl) (by kernel_rfl) ?_
  simp only [List.take_succ_cons, List.take_zero, List.drop_succ_cons, List.drop_zero]
  repeat (go_big_quiet_step ((first | (with_reducible exact Calls.regrown_of (OA.out _)) | (with_reducible exact Calls.regrown_of (OB.out _)))))
  refine wpQuiet_nil (fun w2 hbw2 => ?_)
  clear k0_0 k0_1 k0_2 k1_0 k1_1 k1_2 k2_0 k2_1 k2_2
  clear F0_0 G0_0 F0_1 G0_1 F0_2 G0_2 F1_0 G1_0 F1_1 G1_1 F1_2 G1_2 F2_0 G2_0 F2_1 G2_1 F2_2 G2_2 Z0 Z1 Z2
  replace A0_0 := At.below (A0_0) hbw2
  replace A0_1 := At.below (A0_1) hbw2
  replace A0_2 := At.below (A0_2) hbw2
  replace A1_0 := At.below (A1_0) hbw2
  replace A1_1 := At.below (A1_1) hbw2
  replace A1_2 := At.below (A1_2) hbw2
  replace A2_0 := At.below (A2_0) hbw2
  replace A2_1 := At.below (A2_1) hbw2
  replace A2_2 := At.below (A2_2) hbw2
  replace B := below_step B B.size (hbw2)
  clear hbw2
  have F0_0 := A0_0.1; have G0_0 := A0_0.2
  have F0_1 := A0_1.1; have G0_1 := A0_1.2
  have F0_2 := A0_2.1; have G0_2 := A0_2.2
  have F1_0 := A1_0.1; have G1_0 := A1_0.2
  have F1_1 := A1_1.1; have G1_1 := A1_1.2
  have F1_2 := A1_2.1; have G1_2 := A1_2.2
  have F2_0 := A2_0.1; have G2_0 := A2_0.2
  have F2_1 := A2_1.1; have G2_1 := A2_1.2
  have F2_2 := A2_2.1; have G2_2 := A2_2.2
  have Z0 := A0_0.lt
  have Z1 := A1_0.lt
  have Z2 := A2_0.lt
  iterate 8 go_step
  clear F0_0 G0_0 F0_1 G0_1 F0_2 G0_2 F1_0 G1_0 F1_1 G1_1 F1_2 G1_2 F2_0 G2_0 F2_1 G2_1 F2_2 G2_2 Z0 Z1 Z2
  replace A0_0 := At.set_same A0_0 (.float .f64 (ofKey (A)))
  replace A0_1 := At.set_off (f' := 0) A0_1 (by decide) (.float .f64 (ofKey (A)))
  replace A0_2 := At.set_off (f' := 0) A0_2 (by decide) (.float .f64 (ofKey (A)))
  replace A1_0 := At.set_blk (b' := w.heap.size) (f' := 0) A1_0 (by first | omega | (have := B.size; omega)) (.float .f64 (ofKey (A)))
  replace A1_1 := At.set_blk (b' := w.heap.size) (f' := 0) A1_1 (by first | omega | (have := B.size; omega)) (.float .f64 (ofKey (A)))
  replace A1_2 := At.set_blk (b' := w.heap.size) (f' := 0) A1_2 (by first | omega | (have := B.size; omega)) (.float .f64 (ofKey (A)))
  replace A2_0 := At.set_blk (b' := w.heap.size) (f' := 0) A2_0 (by first | omega | (have := B.size; omega)) (.float .f64 (ofKey (A)))
  replace A2_1 := At.set_blk (b' := w.heap.size) (f' := 0) A2_1 (by first | omega | (have := B.size; omega)) (.float .f64 (ofKey (A)))
  replace A2_2 := At.set_blk (b' := w.heap.size) (f' := 0) A2_2 (by first | omega | (have := B.size; omega)) (.float .f64 (ofKey (A)))
  replace A0_0 := At.set_off (f' := 1) A0_0 (by decide) (.float .f64 (ofKey (Bh)))
  replace A0_1 := At.set_same A0_1 (.float .f64 (ofKey (Bh)))
  replace A0_2 := At.set_off (f' := 1) A0_2 (by decide) (.float .f64 (ofKey (Bh)))
  replace A1_0 := At.set_blk (b' := w.heap.size) (f' := 1) A1_0 (by first | omega | (have := B.size; omega)) (.float .f64 (ofKey (Bh)))
  replace A1_1 := At.set_blk (b' := w.heap.size) (f' := 1) A1_1 (by first | omega | (have := B.size; omega)) (.float .f64 (ofKey (Bh)))
  replace A1_2 := At.set_blk (b' := w.heap.size) (f' := 1) A1_2 (by first | omega | (have := B.size; omega)) (.float .f64 (ofKey (Bh)))
  replace A2_0 := At.set_blk (b' := w.heap.size) (f' := 1) A2_0 (by first | omega | (have := B.size; omega)) (.float .f64 (ofKey (Bh)))
  replace A2_1 := At.set_blk (b' := w.heap.size) (f' := 1) A2_1 (by first | omega | (have := B.size; omega)) (.float .f64 (ofKey (Bh)))
  replace A2_2 := At.set_blk (b' := w.heap.size) (f' := 1) A2_2 (by first | omega | (have := B.size; omega)) (.float .f64 (ofKey (Bh)))
  replace A0_0 := At.set_off (f' := 2) A0_0 (by decide) (.int .i64 (m))
  replace A0_1 := At.set_off (f' := 2) A0_1 (by decide) (.int .i64 (m))
  replace A0_2 := At.set_same A0_2 (.int .i64 (m))
  replace A1_0 := At.set_blk (b' := w.heap.size) (f' := 2) A1_0 (by first | omega | (have := B.size; omega)) (.int .i64 (m))
  replace A1_1 := At.set_blk (b' := w.heap.size) (f' := 2) A1_1 (by first | omega | (have := B.size; omega)) (.int .i64 (m))
  replace A1_2 := At.set_blk (b' := w.heap.size) (f' := 2) A1_2 (by first | omega | (have := B.size; omega)) (.int .i64 (m))
  replace A2_0 := At.set_blk (b' := w.heap.size) (f' := 2) A2_0 (by first | omega | (have := B.size; omega)) (.int .i64 (m))
  replace A2_1 := At.set_blk (b' := w.heap.size) (f' := 2) A2_1 (by first | omega | (have := B.size; omega)) (.int .i64 (m))
  replace A2_2 := At.set_blk (b' := w.heap.size) (f' := 2) A2_2 (by first | omega | (have := B.size; omega)) (.int .i64 (m))
  replace A0_0 := At.set_blk (b' := w.heap.size + 1) (f' := 0) A0_0 (by first | omega | (have := B.size; omega)) (.float .f64 (ofKey (C)))
  replace A0_1 := At.set_blk (b' := w.heap.size + 1) (f' := 0) A0_1 (by first | omega | (have := B.size; omega)) (.float .f64 (ofKey (C)))
  replace A0_2 := At.set_blk (b' := w.heap.size + 1) (f' := 0) A0_2 (by first | omega | (have := B.size; omega)) (.float .f64 (ofKey (C)))
  replace A1_0 := At.set_same A1_0 (.float .f64 (ofKey (C)))
  replace A1_1 := At.set_off (f' := 0) A1_1 (by decide) (.float .f64 (ofKey (C)))
  replace A1_2 := At.set_off (f' := 0) A1_2 (by decide) (.float .f64 (ofKey (C)))
  replace A2_0 := At.set_blk (b' := w.heap.size + 1) (f' := 0) A2_0 (by first | omega | (have := B.size; omega)) (.float .f64 (ofKey (C)))
  replace A2_1 := At.set_blk (b' := w.heap.size + 1) (f' := 0) A2_1 (by first | omega | (have := B.size; omega)) (.float .f64 (ofKey (C)))
  replace A2_2 := At.set_blk (b' := w.heap.size + 1) (f' := 0) A2_2 (by first | omega | (have := B.size; omega)) (.float .f64 (ofKey (C)))
  replace A0_0 := At.set_blk (b' := w.heap.size + 1) (f' := 1) A0_0 (by first | omega | (have := B.size; omega)) (.float .f64 (ofKey (D)))
  replace A0_1 := At.set_blk (b' := w.heap.size + 1) (f' := 1) A0_1 (by first | omega | (have := B.size; omega)) (.float .f64 (ofKey (D)))
  replace A0_2 := At.set_blk (b' := w.heap.size + 1) (f' := 1) A0_2 (by first | omega | (have := B.size; omega)) (.float .f64 (ofKey (D)))
  replace A1_0 := At.set_off (f' := 1) A1_0 (by decide) (.float .f64 (ofKey (D)))
  replace A1_1 := At.set_same A1_1 (.float .f64 (ofKey (D)))
  replace A1_2 := At.set_off (f' := 1) A1_2 (by decide) (.float .f64 (ofKey (D)))
  replace A2_0 := At.set_blk (b' := w.heap.size + 1) (f' := 1) A2_0 (by first | omega | (have := B.size; omega)) (.float .f64 (ofKey (D)))
  replace A2_1 := At.set_blk (b' := w.heap.size + 1) (f' := 1) A2_1 (by first | omega | (have := B.size; omega)) (.float .f64 (ofKey (D)))
  replace A2_2 := At.set_blk (b' := w.heap.size + 1) (f' := 1) A2_2 (by first | omega | (have := B.size; omega)) (.float .f64 (ofKey (D)))
  replace A0_0 := At.set_blk (b' := w.heap.size + 1) (f' := 2) A0_0 (by first | omega | (have := B.size; omega)) (.int .i64 (0))
  replace A0_1 := At.set_blk (b' := w.heap.size + 1) (f' := 2) A0_1 (by first | omega | (have := B.size; omega)) (.int .i64 (0))
  replace A0_2 := At.set_blk (b' := w.heap.size + 1) (f' := 2) A0_2 (by first | omega | (have := B.size; omega)) (.int .i64 (0))
  replace A1_0 := At.set_off (f' := 2) A1_0 (by decide) (.int .i64 (0))
  replace A1_1 := At.set_off (f' := 2) A1_1 (by decide) (.int .i64 (0))
  replace A1_2 := At.set_same A1_2 (.int .i64 (0))
  replace A2_0 := At.set_blk (b' := w.heap.size + 1) (f' := 2) A2_0 (by first | omega | (have := B.size; omega)) (.int .i64 (0))
  replace A2_1 := At.set_blk (b' := w.heap.size + 1) (f' := 2) A2_1 (by first | omega | (have := B.size; omega)) (.int .i64 (0))
  replace A2_2 := At.set_blk (b' := w.heap.size + 1) (f' := 2) A2_2 (by first | omega | (have := B.size; omega)) (.int .i64 (0))
  have B' : Below w.heap.size w (World.setCell (World.setCell (World.setCell (World.setCell (World.setCell (World.setCell w2 ⟨w.heap.size, 0, none⟩ (.float .f64 (ofKey (A)))) ⟨w.heap.size, 1, none⟩ (.float .f64 (ofKey (Bh)))) ⟨w.heap.size, 2, none⟩ (.int .i64 (m))) ⟨w.heap.size + 1, 0, none⟩ (.float .f64 (ofKey (C)))) ⟨w.heap.size + 1, 1, none⟩ (.float .f64 (ofKey (D)))) ⟨w.heap.size + 1, 2, none⟩ (.int .i64 (0))) := (Below.setCell (Below.setCell (Below.setCell (Below.setCell (Below.setCell (Below.setCell B (p := ⟨w.heap.size, 0, none⟩) (by first | (show w.heap.size ≤ w.heap.size; omega) | (have := B.size; show w.heap.size ≤ w.heap.size; omega)) (.float .f64 (ofKey (A)))) (p := ⟨w.heap.size, 1, none⟩) (by first | (show w.heap.size ≤ w.heap.size; omega) | (have := B.size; show w.heap.size ≤ w.heap.size; omega)) (.float .f64 (ofKey (Bh)))) (p := ⟨w.heap.size, 2, none⟩) (by first | (show w.heap.size ≤ w.heap.size; omega) | (have := B.size; show w.heap.size ≤ w.heap.size; omega)) (.int .i64 (m))) (p := ⟨w.heap.size + 1, 0, none⟩) (by first | (show w.heap.size ≤ w.heap.size + 1; omega) | (have := B.size; show w.heap.size ≤ w.heap.size + 1; omega)) (.float .f64 (ofKey (C)))) (p := ⟨w.heap.size + 1, 1, none⟩) (by first | (show w.heap.size ≤ w.heap.size + 1; omega) | (have := B.size; show w.heap.size ≤ w.heap.size + 1; omega)) (.float .f64 (ofKey (D)))) (p := ⟨w.heap.size + 1, 2, none⟩) (by first | (show w.heap.size ≤ w.heap.size + 1; omega) | (have := B.size; show w.heap.size ≤ w.heap.size + 1; omega)) (.int .i64 (0)))
  clear B
  obtain ⟨w3, hw3⟩ : ∃ w3, w3 = (World.setCell (World.setCell (World.setCell (World.setCell (World.setCell (World.setCell w2 ⟨w.heap.size, 0, none⟩ (.float .f64 (ofKey (A)))) ⟨w.heap.size, 1, none⟩ (.float .f64 (ofKey (Bh)))) ⟨w.heap.size, 2, none⟩ (.int .i64 (m))) ⟨w.heap.size + 1, 0, none⟩ (.float .f64 (ofKey (C)))) ⟨w.heap.size + 1, 1, none⟩ (.float .f64 (ofKey (D)))) ⟨w.heap.size + 1, 2, none⟩ (.int .i64 (0))) := ⟨_, rfl⟩
  rw [← hw3]
  replace A0_0 := At.of A0_0 hw3
  replace A0_1 := At.of A0_1 hw3
  replace A0_2 := At.of A0_2 hw3
  replace A1_0 := At.of A1_0 hw3
  replace A1_1 := At.of A1_1 hw3
  replace A1_2 := At.of A1_2 hw3
  replace A2_0 := At.of A2_0 hw3
  replace A2_1 := At.of A2_1 hw3
  replace A2_2 := At.of A2_2 hw3
  have B := below_of B' hw3
  clear B' hw3
  have F0_0 := A0_0.1; have G0_0 := A0_0.2
  have F0_1 := A0_1.1; have G0_1 := A0_1.2
  have F0_2 := A0_2.1; have G0_2 := A0_2.2
  have F1_0 := A1_0.1; have G1_0 := A1_0.2
  have F1_1 := A1_1.1; have G1_1 := A1_1.2
  have F1_2 := A1_2.1; have G1_2 := A1_2.2
  have F2_0 := A2_0.1; have G2_0 := A2_0.2
  have F2_1 := A2_1.1; have G2_1 := A2_1.2
  have F2_2 := A2_2.1; have G2_2 := A2_2.2
  have Z0 := A0_0.lt
  have Z1 := A1_0.lt
  have Z2 := A2_0.lt
  go_wp2_with fail
  refine (decoill_any _).mono ?_
  rintro e w4 ⟨rfl, hbw4⟩
  clear F0_0 G0_0 F0_1 G0_1 F0_2 G0_2 F1_0 G1_0 F1_1 G1_1 F1_2 G1_2 F2_0 G2_0 F2_1 G2_1 F2_2 G2_2 Z0 Z1 Z2
  replace A0_0 := At.below (A0_0) hbw4
  replace A0_1 := At.below (A0_1) hbw4
  replace A0_2 := At.below (A0_2) hbw4
  replace A1_0 := At.below (A1_0) hbw4
  replace A1_1 := At.below (A1_1) hbw4
  replace A1_2 := At.below (A1_2) hbw4
  replace A2_0 := At.below (A2_0) hbw4
  replace A2_1 := At.below (A2_1) hbw4
  replace A2_2 := At.below (A2_2) hbw4
  replace B := below_step B B.size (hbw4)
  clear hbw4
  have F0_0 := A0_0.1; have G0_0 := A0_0.2
  have F0_1 := A0_1.1; have G0_1 := A0_1.2
  have F0_2 := A0_2.1; have G0_2 := A0_2.2
  have F1_0 := A1_0.1; have G1_0 := A1_0.2
  have F1_1 := A1_1.1; have G1_1 := A1_1.2
  have F1_2 := A1_2.1; have G1_2 := A1_2.2
  have F2_0 := A2_0.1; have G2_0 := A2_0.2
  have F2_1 := A2_1.1; have G2_1 := A2_1.2
  have F2_2 := A2_2.1; have G2_2 := A2_2.2
  have Z0 := A0_0.lt
  have Z1 := A1_0.lt
  have Z2 := A2_0.lt
  go_wp2_with fail
  clear F0_0 G0_0 F0_1 G0_1 F0_2 G0_2 F1_0 G1_0 F1_1 G1_1 F1_2 G1_2 F2_0 G2_0 F2_1 G2_1 F2_2 G2_2 Z0 Z1 Z2
  replace A0_0 := At.set_blk (b' := w.heap.size + 1 + 1) (f' := 0) A0_0 (by first | omega | (have := B.size; omega)) (.float .f64 (ofKey (PI)))
  replace A0_1 := At.set_blk (b' := w.heap.size + 1 + 1) (f' := 0) A0_1 (by first | omega | (have := B.size; omega)) (.float .f64 (ofKey (PI)))
  replace A0_2 := At.set_blk (b' := w.heap.size + 1 + 1) (f' := 0) A0_2 (by first | omega | (have := B.size; omega)) (.float .f64 (ofKey (PI)))
  replace A1_0 := At.set_blk (b' := w.heap.size + 1 + 1) (f' := 0) A1_0 (by first | omega | (have := B.size; omega)) (.float .f64 (ofKey (PI)))
  replace A1_1 := At.set_blk (b' := w.heap.size + 1 + 1) (f' := 0) A1_1 (by first | omega | (have := B.size; omega)) (.float .f64 (ofKey (PI)))
  replace A1_2 := At.set_blk (b' := w.heap.size + 1 + 1) (f' := 0) A1_2 (by first | omega | (have := B.size; omega)) (.float .f64 (ofKey (PI)))
  replace A2_0 := At.set_same A2_0 (.float .f64 (ofKey (PI)))
  replace A2_1 := At.set_off (f' := 0) A2_1 (by decide) (.float .f64 (ofKey (PI)))
  replace A2_2 := At.set_off (f' := 0) A2_2 (by decide) (.float .f64 (ofKey (PI)))
  replace A0_0 := At.set_blk (b' := w.heap.size + 1 + 1) (f' := 1) A0_0 (by first | omega | (have := B.size; omega)) (.float .f64 (ofKey (-PI)))
  replace A0_1 := At.set_blk (b' := w.heap.size + 1 + 1) (f' := 1) A0_1 (by first | omega | (have := B.size; omega)) (.float .f64 (ofKey (-PI)))
  replace A0_2 := At.set_blk (b' := w.heap.size + 1 + 1) (f' := 1) A0_2 (by first | omega | (have := B.size; omega)) (.float .f64 (ofKey (-PI)))
  replace A1_0 := At.set_blk (b' := w.heap.size + 1 + 1) (f' := 1) A1_0 (by first | omega | (have := B.size; omega)) (.float .f64 (ofKey (-PI)))
  replace A1_1 := At.set_blk (b' := w.heap.size + 1 + 1) (f' := 1) A1_1 (by first | omega | (have := B.size; omega)) (.float .f64 (ofKey (-PI)))
  replace A1_2 := At.set_blk (b' := w.heap.size + 1 + 1) (f' := 1) A1_2 (by first | omega | (have := B.size; omega)) (.float .f64 (ofKey (-PI)))
  replace A2_0 := At.set_off (f' := 1) A2_0 (by decide) (.float .f64 (ofKey (-PI)))
  replace A2_1 := At.set_same A2_1 (.float .f64 (ofKey (-PI)))
  replace A2_2 := At.set_off (f' := 1) A2_2 (by decide) (.float .f64 (ofKey (-PI)))
  replace A0_0 := At.set_blk (b' := w.heap.size + 1 + 1) (f' := 2) A0_0 (by first | omega | (have := B.size; omega)) (.int .i64 (0))
  replace A0_1 := At.set_blk (b' := w.heap.size + 1 + 1) (f' := 2) A0_1 (by first | omega | (have := B.size; omega)) (.int .i64 (0))
  replace A0_2 := At.set_blk (b' := w.heap.size + 1 + 1) (f' := 2) A0_2 (by first | omega | (have := B.size; omega)) (.int .i64 (0))
  replace A1_0 := At.set_blk (b' := w.heap.size + 1 + 1) (f' := 2) A1_0 (by first | omega | (have := B.size; omega)) (.int .i64 (0))
  replace A1_1 := At.set_blk (b' := w.heap.size + 1 + 1) (f' := 2) A1_1 (by first | omega | (have := B.size; omega)) (.int .i64 (0))
  replace A1_2 := At.set_blk (b' := w.heap.size + 1 + 1) (f' := 2) A1_2 (by first | omega | (have := B.size; omega)) (.int .i64 (0))
  replace A2_0 := At.set_off (f' := 2) A2_0 (by decide) (.int .i64 (0))
  replace A2_1 := At.set_off (f' := 2) A2_1 (by decide) (.int .i64 (0))
  replace A2_2 := At.set_same A2_2 (.int .i64 (0))
  have B' : Below w.heap.size w (World.setCell (World.setCell (World.setCell w4 ⟨w.heap.size + 1 + 1, 0, none⟩ (.float .f64 (ofKey (PI)))) ⟨w.heap.size + 1 + 1, 1, none⟩ (.float .f64 (ofKey (-PI)))) ⟨w.heap.size + 1 + 1, 2, none⟩ (.int .i64 (0))) := (Below.setCell (Below.setCell (Below.setCell B (p := ⟨w.heap.size + 1 + 1, 0, none⟩) (by first | (show w.heap.size ≤ w.heap.size + 1 + 1; omega) | (have := B.size; show w.heap.size ≤ w.heap.size + 1 + 1; omega)) (.float .f64 (ofKey (PI)))) (p := ⟨w.heap.size + 1 + 1, 1, none⟩) (by first | (show w.heap.size ≤ w.heap.size + 1 + 1; omega) | (have := B.size; show w.heap.size ≤ w.heap.size + 1 + 1; omega)) (.float .f64 (ofKey (-PI)))) (p := ⟨w.heap.size + 1 + 1, 2, none⟩) (by first | (show w.heap.size ≤ w.heap.size + 1 + 1; omega) | (have := B.size; show w.heap.size ≤ w.heap.size + 1 + 1; omega)) (.int .i64 (0)))
  clear B
  obtain ⟨wz, hwz⟩ : ∃ wz, wz = (World.setCell (World.setCell (World.setCell w4 ⟨w.heap.size + 1 + 1, 0, none⟩ (.float .f64 (ofKey (PI)))) ⟨w.heap.size + 1 + 1, 1, none⟩ (.float .f64 (ofKey (-PI)))) ⟨w.heap.size + 1 + 1, 2, none⟩ (.int .i64 (0))) := ⟨_, rfl⟩
  rw [← hwz]
  replace A0_0 := At.of A0_0 hwz
  replace A0_1 := At.of A0_1 hwz
  replace A0_2 := At.of A0_2 hwz
  replace A1_0 := At.of A1_0 hwz
  replace A1_1 := At.of A1_1 hwz
  replace A1_2 := At.of A1_2 hwz
  replace A2_0 := At.of A2_0 hwz
  replace A2_1 := At.of A2_1 hwz
  replace A2_2 := At.of A2_2 hwz
  have B := below_of B' hwz
  clear B' hwz
  have F0_0 := A0_0.1; have G0_0 := A0_0.2
  have F0_1 := A0_1.1; have G0_1 := A0_1.2
  have F0_2 := A0_2.1; have G0_2 := A0_2.2
  have F1_0 := A1_0.1; have G1_0 := A1_0.2
  have F1_1 := A1_1.1; have G1_1 := A1_1.2
  have F1_2 := A1_2.1; have G1_2 := A1_2.2
  have F2_0 := A2_0.1; have G2_0 := A2_0.2
  have F2_1 := A2_1.1; have G2_1 := A2_1.2
  have F2_2 := A2_2.1; have G2_2 := A2_2.2
  have Z0 := A0_0.lt
  have Z1 := A1_0.lt
  have Z2 := A2_0.lt
  refine bodyPost_ret (v := .agg #[.float .f64 (ofKey (PI)), .float .f64 (ofKey (-PI)), .int .i64 (0)]) (by simp [results, Try.results12, go_sem, F2_0, F2_1, F2_2]) rfl ⟨rfl, ?_⟩
  exact B

set_option maxHeartbeats 4000000 in
theorem do_two_e1 (o : Int) (a b a2 b2 : Nat) (d d2 : Int) (A Bh C D m n : Int) (rA : Rg A) (rB : Rg Bh) (rC : Rg C) (rD : Rg D) (X Y l : Int) (rX : Rg X) (rY : Rg Y) (he : ¬ m = 0) (hf : ¬ n = 0)
    (hNA : ∀ w, Calls Try.prog 20 #[.int .i64 o] w fun e w' => e = .returned (.int .i64 2) ∧ Below w.heap.size w w')
    (hOA : ∀ w, Calls Try.prog 11 #[.agg #[.float .f64 (a), .float .f64 (b)], .int .i64 d] w fun e w' => e = .returned (.agg #[.float .f64 (ofKey (A)), .float .f64 (ofKey (Bh)), .int .i64 (m)]) ∧ Below w.heap.size w w')
    (hOB : ∀ w, Calls Try.prog 11 #[.agg #[.float .f64 (a2), .float .f64 (b2)], .int .i64 d2] w fun e w' => e = .returned (.agg #[.float .f64 (ofKey (C)), .float .f64 (ofKey (D)), .int .i64 (n)]) ∧ Below w.heap.size w w')
    (hAP : ∀ w, Calls Try.prog 13 #[.int .i64 o, .agg #[.float .f64 (ofKey (A)), .float .f64 (ofKey (Bh))], .agg #[.float .f64 (ofKey (C)), .float .f64 (ofKey (D))]] w fun e w' => e = .returned (.agg #[.float .f64 (ofKey (X)), .float .f64 (ofKey (Y))]) ∧ Below w.heap.size w w')
    (hNO : ∀ w, Calls Try.prog 16 #[.agg #[.float .f64 (ofKey (A)), .float .f64 (ofKey (Bh))]] w fun e w' => e = .returned (.bool true) ∧ Below w.heap.size w w') (w : World) :
    Calls Try.prog 12 #[.int .i64 o, .agg #[.float .f64 (a), .float .f64 (b), .int .i64 (d)], .agg #[.float .f64 (a2), .float .f64 (b2), .int .i64 (d2)]] w fun e w' => e = .returned (.agg #[.float .f64 (ofKey (X)), .float .f64 (ofKey (Y)), .int .i64 (min 1 (min m n))]) ∧ Below w.heap.size w w' := by
  have NA := Lib.hid hNA
  have OA := Lib.hid hOA
  have OB := Lib.hid hOB
  have AP := Lib.hid hAP
  have NO := Lib.hid hNO
  clear hNA hOA hOB hAP hNO
  have bm : (m == 0) = false := by simpa using he
  have bn : (n == 0) = false := by simpa using hf
  go_enter Try.func12, Try.ntmps12
  go_wp2_with fail
  refine (NA.out _).mono ?_
  rintro e w1 ⟨rfl, hbw1⟩
  obtain ⟨L0, hL0⟩ : ∃ L0, L0 = (World.alloc (World.alloc (World.alloc w (.cells #[.float .f64 (a), .float .f64 (b), .int .i64 (d)] 31)) (.cells #[.float .f64 (a2), .float .f64 (b2), .int .i64 (d2)] 31)) (.cells #[.float .f64 (0), .float .f64 (0), .int .i64 (0)] 31)) := ⟨_, rfl⟩
  have A0_0 : At L0 (w.heap.size) 0 (.float .f64 (a)) := by rw [hL0]; exact ⟨by simp [go_sem], by simp [go_sem]⟩
  have A0_1 : At L0 (w.heap.size) 1 (.float .f64 (b)) := by rw [hL0]; exact ⟨by simp [go_sem], by simp [go_sem]⟩
  have A0_2 : At L0 (w.heap.size) 2 (.int .i64 (d)) := by rw [hL0]; exact ⟨by simp [go_sem], by simp [go_sem]⟩
  have A1_0 : At L0 (w.heap.size + 1) 0 (.float .f64 (a2)) := by rw [hL0]; exact ⟨by simp [go_sem], by simp [go_sem]⟩
  have A1_1 : At L0 (w.heap.size + 1) 1 (.float .f64 (b2)) := by rw [hL0]; exact ⟨by simp [go_sem], by simp [go_sem]⟩
  have A1_2 : At L0 (w.heap.size + 1) 2 (.int .i64 (d2)) := by rw [hL0]; exact ⟨by simp [go_sem], by simp [go_sem]⟩
  have A2_0 : At L0 (w.heap.size + 1 + 1) 0 (.float .f64 (0)) := by rw [hL0]; exact ⟨by simp [go_sem], by simp [go_sem]⟩
  have A2_1 : At L0 (w.heap.size + 1 + 1) 1 (.float .f64 (0)) := by rw [hL0]; exact ⟨by simp [go_sem], by simp [go_sem]⟩
  have A2_2 : At L0 (w.heap.size + 1 + 1) 2 (.int .i64 (0)) := by rw [hL0]; exact ⟨by simp [go_sem], by simp [go_sem]⟩
  subst hL0
  replace A0_0 := At.below (A0_0) hbw1
  replace A0_1 := At.below (A0_1) hbw1
  replace A0_2 := At.below (A0_2) hbw1
  replace A1_0 := At.below (A1_0) hbw1
  replace A1_1 := At.below (A1_1) hbw1
  replace A1_2 := At.below (A1_2) hbw1
  replace A2_0 := At.below (A2_0) hbw1
  replace A2_1 := At.below (A2_1) hbw1
  replace A2_2 := At.below (A2_2) hbw1
  have B := below_alloc (below_alloc (below_alloc (hbw1)))
  clear hbw1
  have F0_0 := A0_0.1; have G0_0 := A0_0.2
  have F0_1 := A0_1.1; have G0_1 := A0_1.2
  have F0_2 := A0_2.1; have G0_2 := A0_2.2
  have F1_0 := A1_0.1; have G1_0 := A1_0.2
  have F1_1 := A1_1.1; have G1_1 := A1_1.2
  have F1_2 := A1_2.1; have G1_2 := A1_2.2
  have F2_0 := A2_0.1; have G2_0 := A2_0.2
  have F2_1 := A2_1.1; have G2_1 := A2_1.2
  have F2_2 := A2_2.1; have G2_2 := A2_2.2
  have Z0 := A0_0.lt
  have Z1 := A1_0.lt
  have Z2 := A2_0.lt
  go_wp2_with fail
  have k0_0 := cell_regrown A0_0.1
  have k0_1 := cell_regrown A0_1.1
  have k0_2 := cell_regrown A0_2.1
  have k1_0 := cell_regrown A1_0.1
  have k1_1 := cell_regrown A1_1.1
  have k1_2 := cell_regrown A1_2.1
  have k2_0 := cell_regrown A2_0.1
  have k2_1 := cell_regrown A2_1.1
  have k2_2 := cell_regrown A2_2.1
  refine wp_region_below_tail 10 (by kernel_rfl) (by kernel_rfl) ?_
  simp only [List.take_succ_cons, List.take_zero, List.drop_succ_cons, List.drop_zero]
  repeat (go_big_quiet_step ((first | (with_reducible exact Calls.regrown_of (OA.out _)) | (with_reducible exact Calls.regrown_of (OB.out _)))))
  refine wpQuiet_nil (fun w2 hbw2 => ?_)
  clear k0_0 k0_1 k0_2 k1_0 k1_1 k1_2 k2_0 k2_1 k2_2
  clear F0_0 G0_0 F0_1 G0_1 F0_2 G0_2 F1_0 G1_0 F1_1 G1_1 F1_2 G1_2 F2_0 G2_0 F2_1 G2_1 F2_2 G2_2 Z0 Z1 Z2
  replace A0_0 := At.below (A0_0) hbw2
  replace A0_1 := At.below (A0_1) hbw2
  replace A0_2 := At.below (A0_2) hbw2
  replace A1_0 := At.below (A1_0) hbw2
  replace A1_1 := At.below (A1_1) hbw2
  replace A1_2 := At.below (A1_2) hbw2
  replace A2_0 := At.below (A2_0) hbw2
  replace A2_1 := At.below (A2_1) hbw2
  replace A2_2 := At.below (A2_2) hbw2
  replace B := below_step B B.size (hbw2)
  clear hbw2
  have F0_0 := A0_0.1; have G0_0 := A0_0.2
  have F0_1 := A0_1.1; have G0_1 := A0_1.2
  have F0_2 := A0_2.1; have G0_2 := A0_2.2
  have F1_0 := A1_0.1; have G1_0 := A1_0.2
  have F1_1 := A1_1.1; have G1_1 := A1_1.2
  have F1_2 := A1_2.1; have G1_2 := A1_2.2
  have F2_0 := A2_0.1; have G2_0 := A2_0.2
  have F2_1 := A2_1.1; have G2_1 := A2_1.2
  have F2_2 := A2_2.1; have G2_2 := A2_2.2
  have Z0 := A0_0.lt
  have Z1 := A1_0.lt
  have Z2 := A2_0.lt
  iterate 8 go_step
  clear F0_0 G0_0 F0_1 G0_1 F0_2 G0_2 F1_0 G1_0 F1_1 G1_1 F1_2 G1_2 F2_0 G2_0 F2_1 G2_1 F2_2 G2_2 Z0 Z1 Z2
  replace A0_0 := At.set_same A0_0 (.float .f64 (ofKey (A)))
  replace A0_1 := At.set_off (f' := 0) A0_1 (by decide) (.float .f64 (ofKey (A)))
  replace A0_2 := At.set_off (f' := 0) A0_2 (by decide) (.float .f64 (ofKey (A)))
  replace A1_0 := At.set_blk (b' := w.heap.size) (f' := 0) A1_0 (by first | omega | (have := B.size; omega)) (.float .f64 (ofKey (A)))
  replace A1_1 := At.set_blk (b' := w.heap.size) (f' := 0) A1_1 (by first | omega | (have := B.size; omega)) (.float .f64 (ofKey (A)))
  replace A1_2 := At.set_blk (b' := w.heap.size) (f' := 0) A1_2 (by first | omega | (have := B.size; omega)) (.float .f64 (ofKey (A)))
  replace A2_0 := At.set_blk (b' := w.heap.size) (f' := 0) A2_0 (by first | omega | (have := B.size; omega)) (.float .f64 (ofKey (A)))
  replace A2_1 := At.set_blk (b' := w.heap.size) (f' := 0) A2_1 (by first | omega | (have := B.size; omega)) (.float .f64 (ofKey (A)))
  replace A2_2 := At.set_blk (b' := w.heap.size) (f' := 0) A2_2 (by first | omega | (have := B.size; omega)) (.float .f64 (ofKey (A)))
  replace A0_0 := At.set_off (f' := 1) A0_0 (by decide) (.float .f64 (ofKey (Bh)))
  replace A0_1 := At.set_same A0_1 (.float .f64 (ofKey (Bh)))
  replace A0_2 := At.set_off (f' := 1) A0_2 (by decide) (.float .f64 (ofKey (Bh)))
  replace A1_0 := At.set_blk (b' := w.heap.size) (f' := 1) A1_0 (by first | omega | (have := B.size; omega)) (.float .f64 (ofKey (Bh)))
  replace A1_1 := At.set_blk (b' := w.heap.size) (f' := 1) A1_1 (by first | omega | (have := B.size; omega)) (.float .f64 (ofKey (Bh)))
  replace A1_2 := At.set_blk (b' := w.heap.size) (f' := 1) A1_2 (by first | omega | (have := B.size; omega)) (.float .f64 (ofKey (Bh)))
  replace A2_0 := At.set_blk (b' := w.heap.size) (f' := 1) A2_0 (by first | omega | (have := B.size; omega)) (.float .f64 (ofKey (Bh)))
  replace A2_1 := At.set_blk (b' := w.heap.size) (f' := 1) A2_1 (by first | omega | (have := B.size; omega)) (.float .f64 (ofKey (Bh)))
  replace A2_2 := At.set_blk (b' := w.heap.size) (f' := 1) A2_2 (by first | omega | (have := B.size; omega)) (.float .f64 (ofKey (Bh)))
  replace A0_0 := At.set_off (f' := 2) A0_0 (by decide) (.int .i64 (m))
  replace A0_1 := At.set_off (f' := 2) A0_1 (by decide) (.int .i64 (m))
  replace A0_2 := At.set_same A0_2 (.int .i64 (m))
  replace A1_0 := At.set_blk (b' := w.heap.size) (f' := 2) A1_0 (by first | omega | (have := B.size; omega)) (.int .i64 (m))
  replace A1_1 := At.set_blk (b' := w.heap.size) (f' := 2) A1_1 (by first | omega | (have := B.size; omega)) (.int .i64 (m))
  replace A1_2 := At.set_blk (b' := w.heap.size) (f' := 2) A1_2 (by first | omega | (have := B.size; omega)) (.int .i64 (m))
  replace A2_0 := At.set_blk (b' := w.heap.size) (f' := 2) A2_0 (by first | omega | (have := B.size; omega)) (.int .i64 (m))
  replace A2_1 := At.set_blk (b' := w.heap.size) (f' := 2) A2_1 (by first | omega | (have := B.size; omega)) (.int .i64 (m))
  replace A2_2 := At.set_blk (b' := w.heap.size) (f' := 2) A2_2 (by first | omega | (have := B.size; omega)) (.int .i64 (m))
  replace A0_0 := At.set_blk (b' := w.heap.size + 1) (f' := 0) A0_0 (by first | omega | (have := B.size; omega)) (.float .f64 (ofKey (C)))
  replace A0_1 := At.set_blk (b' := w.heap.size + 1) (f' := 0) A0_1 (by first | omega | (have := B.size; omega)) (.float .f64 (ofKey (C)))
  replace A0_2 := At.set_blk (b' := w.heap.size + 1) (f' := 0) A0_2 (by first | omega | (have := B.size; omega)) (.float .f64 (ofKey (C)))
  replace A1_0 := At.set_same A1_0 (.float .f64 (ofKey (C)))
  replace A1_1 := At.set_off (f' := 0) A1_1 (by decide) (.float .f64 (ofKey (C)))
  replace A1_2 := At.set_off (f' := 0) A1_2 (by decide) (.float .f64 (ofKey (C)))
  replace A2_0 := At.set_blk (b' := w.heap.size + 1) (f' := 0) A2_0 (by first | omega | (have := B.size; omega)) (.float .f64 (ofKey (C)))
  replace A2_1 := At.set_blk (b' := w.heap.size + 1) (f' := 0) A2_1 (by first | omega | (have := B.size; omega)) (.float .f64 (ofKey (C)))
  replace A2_2 := At.set_blk (b' := w.heap.size + 1) (f' := 0) A2_2 (by first | omega | (have := B.size; omega)) (.float .f64 (ofKey (C)))
  replace A0_0 := At.set_blk (b' := w.heap.size + 1) (f' := 1) A0_0 (by first | omega | (have := B.size; omega)) (.float .f64 (ofKey (D)))
  replace A0_1 := At.set_blk (b' := w.heap.size + 1) (f' := 1) A0_1 (by first | omega | (have := B.size; omega)) (.float .f64 (ofKey (D)))
  replace A0_2 := At.set_blk (b' := w.heap.size + 1) (f' := 1) A0_2 (by first | omega | (have := B.size; omega)) (.float .f64 (ofKey (D)))
  replace A1_0 := At.set_off (f' := 1) A1_0 (by decide) (.float .f64 (ofKey (D)))
  replace A1_1 := At.set_same A1_1 (.float .f64 (ofKey (D)))
  replace A1_2 := At.set_off (f' := 1) A1_2 (by decide) (.float .f64 (ofKey (D)))
  replace A2_0 := At.set_blk (b' := w.heap.size + 1) (f' := 1) A2_0 (by first | omega | (have := B.size; omega)) (.float .f64 (ofKey (D)))
  replace A2_1 := At.set_blk (b' := w.heap.size + 1) (f' := 1) A2_1 (by first | omega | (have := B.size; omega)) (.float .f64 (ofKey (D)))
  replace A2_2 := At.set_blk (b' := w.heap.size + 1) (f' := 1) A2_2 (by first | omega | (have := B.size; omega)) (.float .f64 (ofKey (D)))
  replace A0_0 := At.set_blk (b' := w.heap.size + 1) (f' := 2) A0_0 (by first | omega | (have := B.size; omega)) (.int .i64 (n))
  replace A0_1 := At.set_blk (b' := w.heap.size + 1) (f' := 2) A0_1 (by first | omega | (have := B.size; omega)) (.int .i64 (n))
  replace A0_2 := At.set_blk (b' := w.heap.size + 1) (f' := 2) A0_2 (by first | omega | (have := B.size; omega)) (.int .i64 (n))
  replace A1_0 := At.set_off (f' := 2) A1_0 (by decide) (.int .i64 (n))
  replace A1_1 := At.set_off (f' := 2) A1_1 (by decide) (.int .i64 (n))
  replace A1_2 := At.set_same A1_2 (.int .i64 (n))
  replace A2_0 := At.set_blk (b' := w.heap.size + 1) (f' := 2) A2_0 (by first | omega | (have := B.size; omega)) (.int .i64 (n))
  replace A2_1 := At.set_blk (b' := w.heap.size + 1) (f' := 2) A2_1 (by first | omega | (have := B.size; omega)) (.int .i64 (n))
  replace A2_2 := At.set_blk (b' := w.heap.size + 1) (f' := 2) A2_2 (by first | omega | (have := B.size; omega)) (.int .i64 (n))
  have B' : Below w.heap.size w (World.setCell (World.setCell (World.setCell (World.setCell (World.setCell (World.setCell w2 ⟨w.heap.size, 0, none⟩ (.float .f64 (ofKey (A)))) ⟨w.heap.size, 1, none⟩ (.float .f64 (ofKey (Bh)))) ⟨w.heap.size, 2, none⟩ (.int .i64 (m))) ⟨w.heap.size + 1, 0, none⟩ (.float .f64 (ofKey (C)))) ⟨w.heap.size + 1, 1, none⟩ (.float .f64 (ofKey (D)))) ⟨w.heap.size + 1, 2, none⟩ (.int .i64 (n))) := (Below.setCell (Below.setCell (Below.setCell (Below.setCell (Below.setCell (Below.setCell B (p := ⟨w.heap.size, 0, none⟩) (by first | (show w.heap.size ≤ w.heap.size; omega) | (have := B.size; show w.heap.size ≤ w.heap.size; omega)) (.float .f64 (ofKey (A)))) (p := ⟨w.heap.size, 1, none⟩) (by first | (show w.heap.size ≤ w.heap.size; omega) | (have := B.size; show w.heap.size ≤ w.heap.size; omega)) (.float .f64 (ofKey (Bh)))) (p := ⟨w.heap.size, 2, none⟩) (by first | (show w.heap.size ≤ w.heap.size; omega) | (have := B.size; show w.heap.size ≤ w.heap.size; omega)) (.int .i64 (m))) (p := ⟨w.heap.size + 1, 0, none⟩) (by first | (show w.heap.size ≤ w.heap.size + 1; omega) | (have := B.size; show w.heap.size ≤ w.heap.size + 1; omega)) (.float .f64 (ofKey (C)))) (p := ⟨w.heap.size + 1, 1, none⟩) (by first | (show w.heap.size ≤ w.heap.size + 1; omega) | (have := B.size; show w.heap.size ≤ w.heap.size + 1; omega)) (.float .f64 (ofKey (D)))) (p := ⟨w.heap.size + 1, 2, none⟩) (by first | (show w.heap.size ≤ w.heap.size + 1; omega) | (have := B.size; show w.heap.size ≤ w.heap.size + 1; omega)) (.int .i64 (n)))
  clear B
  obtain ⟨w3, hw3⟩ : ∃ w3, w3 = (World.setCell (World.setCell (World.setCell (World.setCell (World.setCell (World.setCell w2 ⟨w.heap.size, 0, none⟩ (.float .f64 (ofKey (A)))) ⟨w.heap.size, 1, none⟩ (.float .f64 (ofKey (Bh)))) ⟨w.heap.size, 2, none⟩ (.int .i64 (m))) ⟨w.heap.size + 1, 0, none⟩ (.float .f64 (ofKey (C)))) ⟨w.heap.size + 1, 1, none⟩ (.float .f64 (ofKey (D)))) ⟨w.heap.size + 1, 2, none⟩ (.int .i64 (n))) := ⟨_, rfl⟩
  rw [← hw3]
  replace A0_0 := At.of A0_0 hw3
  replace A0_1 := At.of A0_1 hw3
  replace A0_2 := At.of A0_2 hw3
  replace A1_0 := At.of A1_0 hw3
  replace A1_1 := At.of A1_1 hw3
  replace A1_2 := At.of A1_2 hw3
  replace A2_0 := At.of A2_0 hw3
  replace A2_1 := At.of A2_1 hw3
  replace A2_2 := At.of A2_2 hw3
  have B := below_of B' hw3
  clear B' hw3
  have F0_0 := A0_0.1; have G0_0 := A0_0.2
  have F0_1 := A0_1.1; have G0_1 := A0_1.2
  have F0_2 := A0_2.1; have G0_2 := A0_2.2
  have F1_0 := A1_0.1; have G1_0 := A1_0.2
  have F1_1 := A1_1.1; have G1_1 := A1_1.2
  have F1_2 := A1_2.1; have G1_2 := A1_2.2
  have F2_0 := A2_0.1; have G2_0 := A2_0.2
  have F2_1 := A2_1.1; have G2_1 := A2_1.2
  have F2_2 := A2_2.1; have G2_2 := A2_2.2
  have Z0 := A0_0.lt
  have Z1 := A1_0.lt
  have Z2 := A2_0.lt
  go_wp2_with fail
  refine (AP.out _).mono ?_
  rintro e w4 ⟨rfl, hbw4⟩
  clear F0_0 G0_0 F0_1 G0_1 F0_2 G0_2 F1_0 G1_0 F1_1 G1_1 F1_2 G1_2 F2_0 G2_0 F2_1 G2_1 F2_2 G2_2 Z0 Z1 Z2
  replace A0_0 := At.below (A0_0) hbw4
  replace A0_1 := At.below (A0_1) hbw4
  replace A0_2 := At.below (A0_2) hbw4
  replace A1_0 := At.below (A1_0) hbw4
  replace A1_1 := At.below (A1_1) hbw4
  replace A1_2 := At.below (A1_2) hbw4
  replace A2_0 := At.below (A2_0) hbw4
  replace A2_1 := At.below (A2_1) hbw4
  replace A2_2 := At.below (A2_2) hbw4
  replace B := below_step B B.size (hbw4)
  clear hbw4
  have F0_0 := A0_0.1; have G0_0 := A0_0.2
  have F0_1 := A0_1.1; have G0_1 := A0_1.2
  have F0_2 := A0_2.1; have G0_2 := A0_2.2
  have F1_0 := A1_0.1; have G1_0 := A1_0.2
  have F1_1 := A1_1.1; have G1_1 := A1_1.2
  have F1_2 := A1_2.1; have G1_2 := A1_2.2
  have F2_0 := A2_0.1; have G2_0 := A2_0.2
  have F2_1 := A2_1.1; have G2_1 := A2_1.2
  have F2_2 := A2_2.1; have G2_2 := A2_2.2
  have Z0 := A0_0.lt
  have Z1 := A1_0.lt
  have Z2 := A2_0.lt
  go_wp2_with fail
  refine (NO.out _).mono ?_
  rintro e w5 ⟨rfl, hbw5⟩
  clear F0_0 G0_0 F0_1 G0_1 F0_2 G0_2 F1_0 G1_0 F1_1 G1_1 F1_2 G1_2 F2_0 G2_0 F2_1 G2_1 F2_2 G2_2 Z0 Z1 Z2
  have n1 : w.heap.size + 1 + 1 < w4.heap.size := At.lt A2_2
  replace A0_0 := At.below (At.alloc (A0_0)) hbw5
  replace A0_1 := At.below (At.alloc (A0_1)) hbw5
  replace A0_2 := At.below (At.alloc (A0_2)) hbw5
  replace A1_0 := At.below (At.alloc (A1_0)) hbw5
  replace A1_1 := At.below (At.alloc (A1_1)) hbw5
  replace A1_2 := At.below (At.alloc (A1_2)) hbw5
  replace A2_0 := At.below (At.alloc (A2_0)) hbw5
  replace A2_1 := At.below (At.alloc (A2_1)) hbw5
  replace A2_2 := At.below (At.alloc (A2_2)) hbw5
  have A3_0 : At (World.alloc w4 (.cells #[.float .f64 (ofKey (X)), .float .f64 (ofKey (Y))] 27)) (w4.heap.size) 0 (.float .f64 (ofKey (X))) := ⟨by simp [go_sem], by simp [go_sem]⟩
  replace A3_0 := At.below A3_0 hbw5
  have A3_1 : At (World.alloc w4 (.cells #[.float .f64 (ofKey (X)), .float .f64 (ofKey (Y))] 27)) (w4.heap.size) 1 (.float .f64 (ofKey (Y))) := ⟨by simp [go_sem], by simp [go_sem]⟩
  replace A3_1 := At.below A3_1 hbw5
  replace B := below_step B B.size (below_alloc (hbw5))
  clear hbw5
  have F0_0 := A0_0.1; have G0_0 := A0_0.2
  have F0_1 := A0_1.1; have G0_1 := A0_1.2
  have F0_2 := A0_2.1; have G0_2 := A0_2.2
  have F1_0 := A1_0.1; have G1_0 := A1_0.2
  have F1_1 := A1_1.1; have G1_1 := A1_1.2
  have F1_2 := A1_2.1; have G1_2 := A1_2.2
  have F2_0 := A2_0.1; have G2_0 := A2_0.2
  have F2_1 := A2_1.1; have G2_1 := A2_1.2
  have F2_2 := A2_2.1; have G2_2 := A2_2.2
  have F3_0 := A3_0.1; have G3_0 := A3_0.2
  have F3_1 := A3_1.1; have G3_1 := A3_1.2
  have Z0 := A0_0.lt
  have Z1 := A1_0.lt
  have Z2 := A2_0.lt
  have Z3 := A3_0.lt
  go_wp2_with fail
  clear F0_0 G0_0 F0_1 G0_1 F0_2 G0_2 F1_0 G1_0 F1_1 G1_1 F1_2 G1_2 F2_0 G2_0 F2_1 G2_1 F2_2 G2_2 F3_0 G3_0 F3_1 G3_1 Z0 Z1 Z2 Z3
  replace A0_0 := At.set_blk (b' := w.heap.size + 1 + 1) (f' := 0) A0_0 (by first | omega | (have := B.size; omega)) (.float .f64 (ofKey (X)))
  replace A0_1 := At.set_blk (b' := w.heap.size + 1 + 1) (f' := 0) A0_1 (by first | omega | (have := B.size; omega)) (.float .f64 (ofKey (X)))
  replace A0_2 := At.set_blk (b' := w.heap.size + 1 + 1) (f' := 0) A0_2 (by first | omega | (have := B.size; omega)) (.float .f64 (ofKey (X)))
  replace A1_0 := At.set_blk (b' := w.heap.size + 1 + 1) (f' := 0) A1_0 (by first | omega | (have := B.size; omega)) (.float .f64 (ofKey (X)))
  replace A1_1 := At.set_blk (b' := w.heap.size + 1 + 1) (f' := 0) A1_1 (by first | omega | (have := B.size; omega)) (.float .f64 (ofKey (X)))
  replace A1_2 := At.set_blk (b' := w.heap.size + 1 + 1) (f' := 0) A1_2 (by first | omega | (have := B.size; omega)) (.float .f64 (ofKey (X)))
  replace A2_0 := At.set_same A2_0 (.float .f64 (ofKey (X)))
  replace A2_1 := At.set_off (f' := 0) A2_1 (by decide) (.float .f64 (ofKey (X)))
  replace A2_2 := At.set_off (f' := 0) A2_2 (by decide) (.float .f64 (ofKey (X)))
  replace A3_0 := At.set_blk (b' := w.heap.size + 1 + 1) (f' := 0) A3_0 (by first | omega | (have := B.size; omega)) (.float .f64 (ofKey (X)))
  replace A3_1 := At.set_blk (b' := w.heap.size + 1 + 1) (f' := 0) A3_1 (by first | omega | (have := B.size; omega)) (.float .f64 (ofKey (X)))
  replace A0_0 := At.set_blk (b' := w.heap.size + 1 + 1) (f' := 1) A0_0 (by first | omega | (have := B.size; omega)) (.float .f64 (ofKey (Y)))
  replace A0_1 := At.set_blk (b' := w.heap.size + 1 + 1) (f' := 1) A0_1 (by first | omega | (have := B.size; omega)) (.float .f64 (ofKey (Y)))
  replace A0_2 := At.set_blk (b' := w.heap.size + 1 + 1) (f' := 1) A0_2 (by first | omega | (have := B.size; omega)) (.float .f64 (ofKey (Y)))
  replace A1_0 := At.set_blk (b' := w.heap.size + 1 + 1) (f' := 1) A1_0 (by first | omega | (have := B.size; omega)) (.float .f64 (ofKey (Y)))
  replace A1_1 := At.set_blk (b' := w.heap.size + 1 + 1) (f' := 1) A1_1 (by first | omega | (have := B.size; omega)) (.float .f64 (ofKey (Y)))
  replace A1_2 := At.set_blk (b' := w.heap.size + 1 + 1) (f' := 1) A1_2 (by first | omega | (have := B.size; omega)) (.float .f64 (ofKey (Y)))
  replace A2_0 := At.set_off (f' := 1) A2_0 (by decide) (.float .f64 (ofKey (Y)))
  replace A2_1 := At.set_same A2_1 (.float .f64 (ofKey (Y)))
  replace A2_2 := At.set_off (f' := 1) A2_2 (by decide) (.float .f64 (ofKey (Y)))
  replace A3_0 := At.set_blk (b' := w.heap.size + 1 + 1) (f' := 1) A3_0 (by first | omega | (have := B.size; omega)) (.float .f64 (ofKey (Y)))
  replace A3_1 := At.set_blk (b' := w.heap.size + 1 + 1) (f' := 1) A3_1 (by first | omega | (have := B.size; omega)) (.float .f64 (ofKey (Y)))
  replace A0_0 := At.set_blk (b' := w.heap.size + 1 + 1) (f' := 2) A0_0 (by first | omega | (have := B.size; omega)) (.int .i64 (min 1 (min m n)))
  replace A0_1 := At.set_blk (b' := w.heap.size + 1 + 1) (f' := 2) A0_1 (by first | omega | (have := B.size; omega)) (.int .i64 (min 1 (min m n)))
  replace A0_2 := At.set_blk (b' := w.heap.size + 1 + 1) (f' := 2) A0_2 (by first | omega | (have := B.size; omega)) (.int .i64 (min 1 (min m n)))
  replace A1_0 := At.set_blk (b' := w.heap.size + 1 + 1) (f' := 2) A1_0 (by first | omega | (have := B.size; omega)) (.int .i64 (min 1 (min m n)))
  replace A1_1 := At.set_blk (b' := w.heap.size + 1 + 1) (f' := 2) A1_1 (by first | omega | (have := B.size; omega)) (.int .i64 (min 1 (min m n)))
  replace A1_2 := At.set_blk (b' := w.heap.size + 1 + 1) (f' := 2) A1_2 (by first | omega | (have := B.size; omega)) (.int .i64 (min 1 (min m n)))
  replace A2_0 := At.set_off (f' := 2) A2_0 (by decide) (.int .i64 (min 1 (min m n)))
  replace A2_1 := At.set_off (f' := 2) A2_1 (by decide) (.int .i64 (min 1 (min m n)))
  replace A2_2 := At.set_same A2_2 (.int .i64 (min 1 (min m n)))
  replace A3_0 := At.set_blk (b' := w.heap.size + 1 + 1) (f' := 2) A3_0 (by first | omega | (have := B.size; omega)) (.int .i64 (min 1 (min m n)))
  replace A3_1 := At.set_blk (b' := w.heap.size + 1 + 1) (f' := 2) A3_1 (by first | omega | (have := B.size; omega)) (.int .i64 (min 1 (min m n)))
  have B' : Below w.heap.size w (World.setCell (World.setCell (World.setCell w5 ⟨w.heap.size + 1 + 1, 0, none⟩ (.float .f64 (ofKey (X)))) ⟨w.heap.size + 1 + 1, 1, none⟩ (.float .f64 (ofKey (Y)))) ⟨w.heap.size + 1 + 1, 2, none⟩ (.int .i64 (min 1 (min m n)))) := (Below.setCell (Below.setCell (Below.setCell B (p := ⟨w.heap.size + 1 + 1, 0, none⟩) (by first | (show w.heap.size ≤ w.heap.size + 1 + 1; omega) | (have := B.size; show w.heap.size ≤ w.heap.size + 1 + 1; omega)) (.float .f64 (ofKey (X)))) (p := ⟨w.heap.size + 1 + 1, 1, none⟩) (by first | (show w.heap.size ≤ w.heap.size + 1 + 1; omega) | (have := B.size; show w.heap.size ≤ w.heap.size + 1 + 1; omega)) (.float .f64 (ofKey (Y)))) (p := ⟨w.heap.size + 1 + 1, 2, none⟩) (by first | (show w.heap.size ≤ w.heap.size + 1 + 1; omega) | (have := B.size; show w.heap.size ≤ w.heap.size + 1 + 1; omega)) (.int .i64 (min 1 (min m n))))
  clear B
  obtain ⟨wz, hwz⟩ : ∃ wz, wz = (World.setCell (World.setCell (World.setCell w5 ⟨w.heap.size + 1 + 1, 0, none⟩ (.float .f64 (ofKey (X)))) ⟨w.heap.size + 1 + 1, 1, none⟩ (.float .f64 (ofKey (Y)))) ⟨w.heap.size + 1 + 1, 2, none⟩ (.int .i64 (min 1 (min m n)))) := ⟨_, rfl⟩
  rw [← hwz]
  replace A0_0 := At.of A0_0 hwz
  replace A0_1 := At.of A0_1 hwz
  replace A0_2 := At.of A0_2 hwz
  replace A1_0 := At.of A1_0 hwz
  replace A1_1 := At.of A1_1 hwz
  replace A1_2 := At.of A1_2 hwz
  replace A2_0 := At.of A2_0 hwz
  replace A2_1 := At.of A2_1 hwz
  replace A2_2 := At.of A2_2 hwz
  replace A3_0 := At.of A3_0 hwz
  replace A3_1 := At.of A3_1 hwz
  have B := below_of B' hwz
  clear B' hwz
  have F0_0 := A0_0.1; have G0_0 := A0_0.2
  have F0_1 := A0_1.1; have G0_1 := A0_1.2
  have F0_2 := A0_2.1; have G0_2 := A0_2.2
  have F1_0 := A1_0.1; have G1_0 := A1_0.2
  have F1_1 := A1_1.1; have G1_1 := A1_1.2
  have F1_2 := A1_2.1; have G1_2 := A1_2.2
  have F2_0 := A2_0.1; have G2_0 := A2_0.2
  have F2_1 := A2_1.1; have G2_1 := A2_1.2
  have F2_2 := A2_2.1; have G2_2 := A2_2.2
  have F3_0 := A3_0.1; have G3_0 := A3_0.2
  have F3_1 := A3_1.1; have G3_1 := A3_1.2
  have Z0 := A0_0.lt
  have Z1 := A1_0.lt
  have Z2 := A2_0.lt
  have Z3 := A3_0.lt
  refine bodyPost_ret (v := .agg #[.float .f64 (ofKey (X)), .float .f64 (ofKey (Y)), .int .i64 (min 1 (min m n))]) (by simp [results, Try.results12, go_sem, F2_0, F2_1, F2_2]) rfl ⟨rfl, ?_⟩
  exact B

set_option maxHeartbeats 4000000 in
theorem do_two_e2 (o : Int) (a b a2 b2 : Nat) (d d2 : Int) (A Bh C D m n : Int) (rA : Rg A) (rB : Rg Bh) (rC : Rg C) (rD : Rg D) (X Y l : Int) (rX : Rg X) (rY : Rg Y) (he : ¬ m = 0) (hf : ¬ n = 0)
    (hNA : ∀ w, Calls Try.prog 20 #[.int .i64 o] w fun e w' => e = .returned (.int .i64 2) ∧ Below w.heap.size w w')
    (hOA : ∀ w, Calls Try.prog 11 #[.agg #[.float .f64 (a), .float .f64 (b)], .int .i64 d] w fun e w' => e = .returned (.agg #[.float .f64 (ofKey (A)), .float .f64 (ofKey (Bh)), .int .i64 (m)]) ∧ Below w.heap.size w w')
    (hOB : ∀ w, Calls Try.prog 11 #[.agg #[.float .f64 (a2), .float .f64 (b2)], .int .i64 d2] w fun e w' => e = .returned (.agg #[.float .f64 (ofKey (C)), .float .f64 (ofKey (D)), .int .i64 (n)]) ∧ Below w.heap.size w w')
    (hAP : ∀ w, Calls Try.prog 13 #[.int .i64 o, .agg #[.float .f64 (ofKey (A)), .float .f64 (ofKey (Bh))], .agg #[.float .f64 (ofKey (C)), .float .f64 (ofKey (D))]] w fun e w' => e = .returned (.agg #[.float .f64 (ofKey (X)), .float .f64 (ofKey (Y))]) ∧ Below w.heap.size w w')
    (hNO : ∀ w, Calls Try.prog 16 #[.agg #[.float .f64 (ofKey (A)), .float .f64 (ofKey (Bh))]] w fun e w' => e = .returned (.bool false) ∧ Below w.heap.size w w')
    (hNP : ∀ w, Calls Try.prog 16 #[.agg #[.float .f64 (ofKey (C)), .float .f64 (ofKey (D))]] w fun e w' => e = .returned (.bool true) ∧ Below w.heap.size w w') (w : World) :
    Calls Try.prog 12 #[.int .i64 o, .agg #[.float .f64 (a), .float .f64 (b), .int .i64 (d)], .agg #[.float .f64 (a2), .float .f64 (b2), .int .i64 (d2)]] w fun e w' => e = .returned (.agg #[.float .f64 (ofKey (X)), .float .f64 (ofKey (Y)), .int .i64 (min 1 (min m n))]) ∧ Below w.heap.size w w' := by
  have NA := Lib.hid hNA
  have OA := Lib.hid hOA
  have OB := Lib.hid hOB
  have AP := Lib.hid hAP
  have NO := Lib.hid hNO
  have NP := Lib.hid hNP
  clear hNA hOA hOB hAP hNO hNP
  have bm : (m == 0) = false := by simpa using he
  have bn : (n == 0) = false := by simpa using hf
  go_enter Try.func12, Try.ntmps12
  go_wp2_with fail
  refine (NA.out _).mono ?_
  rintro e w1 ⟨rfl, hbw1⟩
  obtain ⟨L0, hL0⟩ : ∃ L0, L0 = (World.alloc (World.alloc (World.alloc w (.cells #[.float .f64 (a), .float .f64 (b), .int .i64 (d)] 31)) (.cells #[.float .f64 (a2), .float .f64 (b2), .int .i64 (d2)] 31)) (.cells #[.float .f64 (0), .float .f64 (0), .int .i64 (0)] 31)) := ⟨_, rfl⟩
  have A0_0 : At L0 (w.heap.size) 0 (.float .f64 (a)) := by rw [hL0]; exact ⟨by simp [go_sem], by simp [go_sem]⟩
  have A0_1 : At L0 (w.heap.size) 1 (.float .f64 (b)) := by rw [hL0]; exact ⟨by simp [go_sem], by simp [go_sem]⟩
  have A0_2 : At L0 (w.heap.size) 2 (.int .i64 (d)) := by rw [hL0]; exact ⟨by simp [go_sem], by simp [go_sem]⟩
  have A1_0 : At L0 (w.heap.size + 1) 0 (.float .f64 (a2)) := by rw [hL0]; exact ⟨by simp [go_sem], by simp [go_sem]⟩
  have A1_1 : At L0 (w.heap.size + 1) 1 (.float .f64 (b2)) := by rw [hL0]; exact ⟨by simp [go_sem], by simp [go_sem]⟩
  have A1_2 : At L0 (w.heap.size + 1) 2 (.int .i64 (d2)) := by rw [hL0]; exact ⟨by simp [go_sem], by simp [go_sem]⟩
  have A2_0 : At L0 (w.heap.size + 1 + 1) 0 (.float .f64 (0)) := by rw [hL0]; exact ⟨by simp [go_sem], by simp [go_sem]⟩
  have A2_1 : At L0 (w.heap.size + 1 + 1) 1 (.float .f64 (0)) := by rw [hL0]; exact ⟨by simp [go_sem], by simp [go_sem]⟩
  have A2_2 : At L0 (w.heap.size + 1 + 1) 2 (.int .i64 (0)) := by rw [hL0]; exact ⟨by simp [go_sem], by simp [go_sem]⟩
  subst hL0
  replace A0_0 := At.below (A0_0) hbw1
  replace A0_1 := At.below (A0_1) hbw1
  replace A0_2 := At.below (A0_2) hbw1
  replace A1_0 := At.below (A1_0) hbw1
  replace A1_1 := At.below (A1_1) hbw1
  replace A1_2 := At.below (A1_2) hbw1
  replace A2_0 := At.below (A2_0) hbw1
  replace A2_1 := At.below (A2_1) hbw1
  replace A2_2 := At.below (A2_2) hbw1
  have B := below_alloc (below_alloc (below_alloc (hbw1)))
  clear hbw1
  have F0_0 := A0_0.1; have G0_0 := A0_0.2
  have F0_1 := A0_1.1; have G0_1 := A0_1.2
  have F0_2 := A0_2.1; have G0_2 := A0_2.2
  have F1_0 := A1_0.1; have G1_0 := A1_0.2
  have F1_1 := A1_1.1; have G1_1 := A1_1.2
  have F1_2 := A1_2.1; have G1_2 := A1_2.2
  have F2_0 := A2_0.1; have G2_0 := A2_0.2
  have F2_1 := A2_1.1; have G2_1 := A2_1.2
  have F2_2 := A2_2.1; have G2_2 := A2_2.2
  have Z0 := A0_0.lt
  have Z1 := A1_0.lt
  have Z2 := A2_0.lt
  go_wp2_with fail
  have k0_0 := cell_regrown A0_0.1
  have k0_1 := cell_regrown A0_1.1
  have k0_2 := cell_regrown A0_2.1
  have k1_0 := cell_regrown A1_0.1
  have k1_1 := cell_regrown A1_1.1
  have k1_2 := cell_regrown A1_2.1
  have k2_0 := cell_regrown A2_0.1
  have k2_1 := cell_regrown A2_1.1
  have k2_2 := cell_regrown A2_2.1
  refine wp_region_below_tail 10 (by kernel_rfl) (by kernel_rfl) ?_
  simp only [List.take_succ_cons, List.take_zero, List.drop_succ_cons, List.drop_zero]
  repeat (go_big_quiet_step ((first | (with_reducible exact Calls.regrown_of (OA.out _)) | (with_reducible exact Calls.regrown_of (OB.out _)))))
  refine wpQuiet_nil (fun w2 hbw2 => ?_)
  clear k0_0 k0_1 k0_2 k1_0 k1_1 k1_2 k2_0 k2_1 k2_2
  clear F0_0 G0_0 F0_1 G0_1 F0_2 G0_2 F1_0 G1_0 F1_1 G1_1 F1_2 G1_2 F2_0 G2_0 F2_1 G2_1 F2_2 G2_2 Z0 Z1 Z2
  replace A0_0 := At.below (A0_0) hbw2
  replace A0_1 := At.below (A0_1) hbw2
  replace A0_2 := At.below (A0_2) hbw2
  replace A1_0 := At.below (A1_0) hbw2
  replace A1_1 := At.below (A1_1) hbw2
  replace A1_2 := At.below (A1_2) hbw2
  replace A2_0 := At.below (A2_0) hbw2
  replace A2_1 := At.below (A2_1) hbw2
  replace A2_2 := At.below (A2_2) hbw2
  replace B := below_step B B.size (hbw2)
  clear hbw2
  have F0_0 := A0_0.1; have G0_0 := A0_0.2
  have F0_1 := A0_1.1; have G0_1 := A0_1.2
  have F0_2 := A0_2.1; have G0_2 := A0_2.2
  have F1_0 := A1_0.1; have G1_0 := A1_0.2
  have F1_1 := A1_1.1; have G1_1 := A1_1.2
  have F1_2 := A1_2.1; have G1_2 := A1_2.2
  have F2_0 := A2_0.1; have G2_0 := A2_0.2
  have F2_1 := A2_1.1; have G2_1 := A2_1.2
  have F2_2 := A2_2.1; have G2_2 := A2_2.2
  have Z0 := A0_0.lt
  have Z1 := A1_0.lt
  have Z2 := A2_0.lt
  iterate 8 go_step
  clear F0_0 G0_0 F0_1 G0_1 F0_2 G0_2 F1_0 G1_0 F1_1 G1_1 F1_2 G1_2 F2_0 G2_0 F2_1 G2_1 F2_2 G2_2 Z0 Z1 Z2
  replace A0_0 := At.set_same A0_0 (.float .f64 (ofKey (A)))
  replace A0_1 := At.set_off (f' := 0) A0_1 (by decide) (.float .f64 (ofKey (A)))
  replace A0_2 := At.set_off (f' := 0) A0_2 (by decide) (.float .f64 (ofKey (A)))
  replace A1_0 := At.set_blk (b' := w.heap.size) (f' := 0) A1_0 (by first | omega | (have := B.size; omega)) (.float .f64 (ofKey (A)))
  replace A1_1 := At.set_blk (b' := w.heap.size) (f' := 0) A1_1 (by first | omega | (have := B.size; omega)) (.float .f64 (ofKey (A)))
  replace A1_2 := At.set_blk (b' := w.heap.size) (f' := 0) A1_2 (by first | omega | (have := B.size; omega)) (.float .f64 (ofKey (A)))
  replace A2_0 := At.set_blk (b' := w.heap.size) (f' := 0) A2_0 (by first | omega | (have := B.size; omega)) (.float .f64 (ofKey (A)))
  replace A2_1 := At.set_blk (b' := w.heap.size) (f' := 0) A2_1 (by first | omega | (have := B.size; omega)) (.float .f64 (ofKey (A)))
  replace A2_2 := At.set_blk (b' := w.heap.size) (f' := 0) A2_2 (by first | omega | (have := B.size; omega)) (.float .f64 (ofKey (A)))
  replace A0_0 := At.set_off (f' := 1) A0_0 (by decide) (.float .f64 (ofKey (Bh)))
  replace A0_1 := At.set_same A0_1 (.float .f64 (ofKey (Bh)))
  replace A0_2 := At.set_off (f' := 1) A0_2 (by decide) (.float .f64 (ofKey (Bh)))
  replace A1_0 := At.set_blk (b' := w.heap.size) (f' := 1) A1_0 (by first | omega | (have := B.size; omega)) (.float .f64 (ofKey (Bh)))
  replace A1_1 := At.set_blk (b' := w.heap.size) (f' := 1) A1_1 (by first | omega | (have := B.size; omega)) (.float .f64 (ofKey (Bh)))
  replace A1_2 := At.set_blk (b' := w.heap.size) (f' := 1) A1_2 (by first | omega | (have := B.size; omega)) (.float .f64 (ofKey (Bh)))
  replace A2_0 := At.set_blk (b' := w.heap.size) (f' := 1) A2_0 (by first | omega | (have := B.size; omega)) (.float .f64 (ofKey (Bh)))
  replace A2_1 := At.set_blk (b' := w.heap.size) (f' := 1) A2_1 (by first | omega | (have := B.size; omega)) (.float .f64 (ofKey (Bh)))
  replace A2_2 := At.set_blk (b' := w.heap.size) (f' := 1) A2_2 (by first | omega | (have := B.size; omega)) (.float .f64 (ofKey (Bh)))
  replace A0_0 := At.set_off (f' := 2) A0_0 (by decide) (.int .i64 (m))
  replace A0_1 := At.set_off (f' := 2) A0_1 (by decide) (.int .i64 (m))
  replace A0_2 := At.set_same A0_2 (.int .i64 (m))
  replace A1_0 := At.set_blk (b' := w.heap.size) (f' := 2) A1_0 (by first | omega | (have := B.size; omega)) (.int .i64 (m))
  replace A1_1 := At.set_blk (b' := w.heap.size) (f' := 2) A1_1 (by first | omega | (have := B.size; omega)) (.int .i64 (m))
  replace A1_2 := At.set_blk (b' := w.heap.size) (f' := 2) A1_2 (by first | omega | (have := B.size; omega)) (.int .i64 (m))
  replace A2_0 := At.set_blk (b' := w.heap.size) (f' := 2) A2_0 (by first | omega | (have := B.size; omega)) (.int .i64 (m))
  replace A2_1 := At.set_blk (b' := w.heap.size) (f' := 2) A2_1 (by first | omega | (have := B.size; omega)) (.int .i64 (m))
  replace A2_2 := At.set_blk (b' := w.heap.size) (f' := 2) A2_2 (by first | omega | (have := B.size; omega)) (.int .i64 (m))
  replace A0_0 := At.set_blk (b' := w.heap.size + 1) (f' := 0) A0_0 (by first | omega | (have := B.size; omega)) (.float .f64 (ofKey (C)))
  replace A0_1 := At.set_blk (b' := w.heap.size + 1) (f' := 0) A0_1 (by first | omega | (have := B.size; omega)) (.float .f64 (ofKey (C)))
  replace A0_2 := At.set_blk (b' := w.heap.size + 1) (f' := 0) A0_2 (by first | omega | (have := B.size; omega)) (.float .f64 (ofKey (C)))
  replace A1_0 := At.set_same A1_0 (.float .f64 (ofKey (C)))
  replace A1_1 := At.set_off (f' := 0) A1_1 (by decide) (.float .f64 (ofKey (C)))
  replace A1_2 := At.set_off (f' := 0) A1_2 (by decide) (.float .f64 (ofKey (C)))
  replace A2_0 := At.set_blk (b' := w.heap.size + 1) (f' := 0) A2_0 (by first | omega | (have := B.size; omega)) (.float .f64 (ofKey (C)))
  replace A2_1 := At.set_blk (b' := w.heap.size + 1) (f' := 0) A2_1 (by first | omega | (have := B.size; omega)) (.float .f64 (ofKey (C)))
  replace A2_2 := At.set_blk (b' := w.heap.size + 1) (f' := 0) A2_2 (by first | omega | (have := B.size; omega)) (.float .f64 (ofKey (C)))
  replace A0_0 := At.set_blk (b' := w.heap.size + 1) (f' := 1) A0_0 (by first | omega | (have := B.size; omega)) (.float .f64 (ofKey (D)))
  replace A0_1 := At.set_blk (b' := w.heap.size + 1) (f' := 1) A0_1 (by first | omega | (have := B.size; omega)) (.float .f64 (ofKey (D)))
  replace A0_2 := At.set_blk (b' := w.heap.size + 1) (f' := 1) A0_2 (by first | omega | (have := B.size; omega)) (.float .f64 (ofKey (D)))
  replace A1_0 := At.set_off (f' := 1) A1_0 (by decide) (.float .f64 (ofKey (D)))
  replace A1_1 := At.set_same A1_1 (.float .f64 (ofKey (D)))
  replace A1_2 := At.set_off (f' := 1) A1_2 (by decide) (.float .f64 (ofKey (D)))
  replace A2_0 := At.set_blk (b' := w.heap.size + 1) (f' := 1) A2_0 (by first | omega | (have := B.size; omega)) (.float .f64 (ofKey (D)))
  replace A2_1 := At.set_blk (b' := w.heap.size + 1) (f' := 1) A2_1 (by first | omega | (have := B.size; omega)) (.float .f64 (ofKey (D)))
  replace A2_2 := At.set_blk (b' := w.heap.size + 1) (f' := 1) A2_2 (by first | omega | (have := B.size; omega)) (.float .f64 (ofKey (D)))
  replace A0_0 := At.set_blk (b' := w.heap.size + 1) (f' := 2) A0_0 (by first | omega | (have := B.size; omega)) (.int .i64 (n))
  replace A0_1 := At.set_blk (b' := w.heap.size + 1) (f' := 2) A0_1 (by first | omega | (have := B.size; omega)) (.int .i64 (n))
  replace A0_2 := At.set_blk (b' := w.heap.size + 1) (f' := 2) A0_2 (by first | omega | (have := B.size; omega)) (.int .i64 (n))
  replace A1_0 := At.set_off (f' := 2) A1_0 (by decide) (.int .i64 (n))
  replace A1_1 := At.set_off (f' := 2) A1_1 (by decide) (.int .i64 (n))
  replace A1_2 := At.set_same A1_2 (.int .i64 (n))
  replace A2_0 := At.set_blk (b' := w.heap.size + 1) (f' := 2) A2_0 (by first | omega | (have := B.size; omega)) (.int .i64 (n))
  replace A2_1 := At.set_blk (b' := w.heap.size + 1) (f' := 2) A2_1 (by first | omega | (have := B.size; omega)) (.int .i64 (n))
  replace A2_2 := At.set_blk (b' := w.heap.size + 1) (f' := 2) A2_2 (by first | omega | (have := B.size; omega)) (.int .i64 (n))
  have B' : Below w.heap.size w (World.setCell (World.setCell (World.setCell (World.setCell (World.setCell (World.setCell w2 ⟨w.heap.size, 0, none⟩ (.float .f64 (ofKey (A)))) ⟨w.heap.size, 1, none⟩ (.float .f64 (ofKey (Bh)))) ⟨w.heap.size, 2, none⟩ (.int .i64 (m))) ⟨w.heap.size + 1, 0, none⟩ (.float .f64 (ofKey (C)))) ⟨w.heap.size + 1, 1, none⟩ (.float .f64 (ofKey (D)))) ⟨w.heap.size + 1, 2, none⟩ (.int .i64 (n))) := (Below.setCell (Below.setCell (Below.setCell (Below.setCell (Below.setCell (Below.setCell B (p := ⟨w.heap.size, 0, none⟩) (by first | (show w.heap.size ≤ w.heap.size; omega) | (have := B.size; show w.heap.size ≤ w.heap.size; omega)) (.float .f64 (ofKey (A)))) (p := ⟨w.heap.size, 1, none⟩) (by first | (show w.heap.size ≤ w.heap.size; omega) | (have := B.size; show w.heap.size ≤ w.heap.size; omega)) (.float .f64 (ofKey (Bh)))) (p := ⟨w.heap.size, 2, none⟩) (by first | (show w.heap.size ≤ w.heap.size; omega) | (have := B.size; show w.heap.size ≤ w.heap.size; omega)) (.int .i64 (m))) (p := ⟨w.heap.size + 1, 0, none⟩) (by first | (show w.heap.size ≤ w.heap.size + 1; omega) | (have := B.size; show w.heap.size ≤ w.heap.size + 1; omega)) (.float .f64 (ofKey (C)))) (p := ⟨w.heap.size + 1, 1, none⟩) (by first | (show w.heap.size ≤ w.heap.size + 1; omega) | (have := B.size; show w.heap.size ≤ w.heap.size + 1; omega)) (.float .f64 (ofKey (D)))) (p := ⟨w.heap.size + 1, 2, none⟩) (by first | (show w.heap.size ≤ w.heap.size + 1; omega) | (have := B.size; show w.heap.size ≤ w.heap.size + 1; omega)) (.int .i64 (n)))
  clear B
  obtain ⟨w3, hw3⟩ : ∃ w3, w3 = (World.setCell (World.setCell (World.setCell (World.setCell (World.setCell (World.setCell w2 ⟨w.heap.size, 0, none⟩ (.float .f64 (ofKey (A)))) ⟨w.heap.size, 1, none⟩ (.float .f64 (ofKey (Bh)))) ⟨w.heap.size, 2, none⟩ (.int .i64 (m))) ⟨w.heap.size + 1, 0, none⟩ (.float .f64 (ofKey (C)))) ⟨w.heap.size + 1, 1, none⟩ (.float .f64 (ofKey (D)))) ⟨w.heap.size + 1, 2, none⟩ (.int .i64 (n))) := ⟨_, rfl⟩
  rw [← hw3]
  replace A0_0 := At.of A0_0 hw3
  replace A0_1 := At.of A0_1 hw3
  replace A0_2 := At.of A0_2 hw3
  replace A1_0 := At.of A1_0 hw3
  replace A1_1 := At.of A1_1 hw3
  replace A1_2 := At.of A1_2 hw3
  replace A2_0 := At.of A2_0 hw3
  replace A2_1 := At.of A2_1 hw3
  replace A2_2 := At.of A2_2 hw3
  have B := below_of B' hw3
  clear B' hw3
  have F0_0 := A0_0.1; have G0_0 := A0_0.2
  have F0_1 := A0_1.1; have G0_1 := A0_1.2
  have F0_2 := A0_2.1; have G0_2 := A0_2.2
  have F1_0 := A1_0.1; have G1_0 := A1_0.2
  have F1_1 := A1_1.1; have G1_1 := A1_1.2
  have F1_2 := A1_2.1; have G1_2 := A1_2.2
  have F2_0 := A2_0.1; have G2_0 := A2_0.2
  have F2_1 := A2_1.1; have G2_1 := A2_1.2
  have F2_2 := A2_2.1; have G2_2 := A2_2.2
  have Z0 := A0_0.lt
  have Z1 := A1_0.lt
  have Z2 := A2_0.lt
  go_wp2_with fail
  refine (AP.out _).mono ?_
  rintro e w4 ⟨rfl, hbw4⟩
  clear F0_0 G0_0 F0_1 G0_1 F0_2 G0_2 F1_0 G1_0 F1_1 G1_1 F1_2 G1_2 F2_0 G2_0 F2_1 G2_1 F2_2 G2_2 Z0 Z1 Z2
  replace A0_0 := At.below (A0_0) hbw4
  replace A0_1 := At.below (A0_1) hbw4
  replace A0_2 := At.below (A0_2) hbw4
  replace A1_0 := At.below (A1_0) hbw4
  replace A1_1 := At.below (A1_1) hbw4
  replace A1_2 := At.below (A1_2) hbw4
  replace A2_0 := At.below (A2_0) hbw4
  replace A2_1 := At.below (A2_1) hbw4
  replace A2_2 := At.below (A2_2) hbw4
  replace B := below_step B B.size (hbw4)
  clear hbw4
  have F0_0 := A0_0.1; have G0_0 := A0_0.2
  have F0_1 := A0_1.1; have G0_1 := A0_1.2
  have F0_2 := A0_2.1; have G0_2 := A0_2.2
  have F1_0 := A1_0.1; have G1_0 := A1_0.2
  have F1_1 := A1_1.1; have G1_1 := A1_1.2
  have F1_2 := A1_2.1; have G1_2 := A1_2.2
  have F2_0 := A2_0.1; have G2_0 := A2_0.2
  have F2_1 := A2_1.1; have G2_1 := A2_1.2
  have F2_2 := A2_2.1; have G2_2 := A2_2.2
  have Z0 := A0_0.lt
  have Z1 := A1_0.lt
  have Z2 := A2_0.lt
  go_wp2_with fail
  refine (NO.out _).mono ?_
  rintro e w5 ⟨rfl, hbw5⟩
  clear F0_0 G0_0 F0_1 G0_1 F0_2 G0_2 F1_0 G1_0 F1_1 G1_1 F1_2 G1_2 F2_0 G2_0 F2_1 G2_1 F2_2 G2_2 Z0 Z1 Z2
  have n1 : w.heap.size + 1 + 1 < w4.heap.size := At.lt A2_2
  replace A0_0 := At.below (At.alloc (A0_0)) hbw5
  replace A0_1 := At.below (At.alloc (A0_1)) hbw5
  replace A0_2 := At.below (At.alloc (A0_2)) hbw5
  replace A1_0 := At.below (At.alloc (A1_0)) hbw5
  replace A1_1 := At.below (At.alloc (A1_1)) hbw5
  replace A1_2 := At.below (At.alloc (A1_2)) hbw5
  replace A2_0 := At.below (At.alloc (A2_0)) hbw5
  replace A2_1 := At.below (At.alloc (A2_1)) hbw5
  replace A2_2 := At.below (At.alloc (A2_2)) hbw5
  have A3_0 : At (World.alloc w4 (.cells #[.float .f64 (ofKey (X)), .float .f64 (ofKey (Y))] 27)) (w4.heap.size) 0 (.float .f64 (ofKey (X))) := ⟨by simp [go_sem], by simp [go_sem]⟩
  replace A3_0 := At.below A3_0 hbw5
  have A3_1 : At (World.alloc w4 (.cells #[.float .f64 (ofKey (X)), .float .f64 (ofKey (Y))] 27)) (w4.heap.size) 1 (.float .f64 (ofKey (Y))) := ⟨by simp [go_sem], by simp [go_sem]⟩
  replace A3_1 := At.below A3_1 hbw5
  replace B := below_step B B.size (below_alloc (hbw5))
  clear hbw5
  have F0_0 := A0_0.1; have G0_0 := A0_0.2
  have F0_1 := A0_1.1; have G0_1 := A0_1.2
  have F0_2 := A0_2.1; have G0_2 := A0_2.2
  have F1_0 := A1_0.1; have G1_0 := A1_0.2
  have F1_1 := A1_1.1; have G1_1 := A1_1.2
  have F1_2 := A1_2.1; have G1_2 := A1_2.2
  have F2_0 := A2_0.1; have G2_0 := A2_0.2
  have F2_1 := A2_1.1; have G2_1 := A2_1.2
  have F2_2 := A2_2.1; have G2_2 := A2_2.2
  have F3_0 := A3_0.1; have G3_0 := A3_0.2
  have F3_1 := A3_1.1; have G3_1 := A3_1.2
  have Z0 := A0_0.lt
  have Z1 := A1_0.lt
  have Z2 := A2_0.lt
  have Z3 := A3_0.lt
  go_wp2_with fail
  refine (NP.out _).mono ?_
  rintro e w6 ⟨rfl, hbw6⟩
  clear F0_0 G0_0 F0_1 G0_1 F0_2 G0_2 F1_0 G1_0 F1_1 G1_1 F1_2 G1_2 F2_0 G2_0 F2_1 G2_1 F2_2 G2_2 F3_0 G3_0 F3_1 G3_1 Z0 Z1 Z2 Z3
  replace A0_0 := At.below (A0_0) hbw6
  replace A0_1 := At.below (A0_1) hbw6
  replace A0_2 := At.below (A0_2) hbw6
  replace A1_0 := At.below (A1_0) hbw6
  replace A1_1 := At.below (A1_1) hbw6
  replace A1_2 := At.below (A1_2) hbw6
  replace A2_0 := At.below (A2_0) hbw6
  replace A2_1 := At.below (A2_1) hbw6
  replace A2_2 := At.below (A2_2) hbw6
  replace A3_0 := At.below (A3_0) hbw6
  replace A3_1 := At.below (A3_1) hbw6
  replace B := below_step B B.size (hbw6)
  clear hbw6
  have F0_0 := A0_0.1; have G0_0 := A0_0.2
  have F0_1 := A0_1.1; have G0_1 := A0_1.2
  have F0_2 := A0_2.1; have G0_2 := A0_2.2
  have F1_0 := A1_0.1; have G1_0 := A1_0.2
  have F1_1 := A1_1.1; have G1_1 := A1_1.2
  have F1_2 := A1_2.1; have G1_2 := A1_2.2
  have F2_0 := A2_0.1; have G2_0 := A2_0.2
  have F2_1 := A2_1.1; have G2_1 := A2_1.2
  have F2_2 := A2_2.1; have G2_2 := A2_2.2
  have F3_0 := A3_0.1; have G3_0 := A3_0.2
  have F3_1 := A3_1.1; have G3_1 := A3_1.2
  have Z0 := A0_0.lt
  have Z1 := A1_0.lt
  have Z2 := A2_0.lt
  have Z3 := A3_0.lt
  go_wp2_with fail
  clear F0_0 G0_0 F0_1 G0_1 F0_2 G0_2 F1_0 G1_0 F1_1 G1_1 F1_2 G1_2 F2_0 G2_0 F2_1 G2_1 F2_2 G2_2 F3_0 G3_0 F3_1 G3_1 Z0 Z1 Z2 Z3
  replace A0_0 := At.set_blk (b' := w.heap.size + 1 + 1) (f' := 0) A0_0 (by first | omega | (have := B.size; omega)) (.float .f64 (ofKey (X)))
  replace A0_1 := At.set_blk (b' := w.heap.size + 1 + 1) (f' := 0) A0_1 (by first | omega | (have := B.size; omega)) (.float .f64 (ofKey (X)))
  replace A0_2 := At.set_blk (b' := w.heap.size + 1 + 1) (f' := 0) A0_2 (by first | omega | (have := B.size; omega)) (.float .f64 (ofKey (X)))
  replace A1_0 := At.set_blk (b' := w.heap.size + 1 + 1) (f' := 0) A1_0 (by first | omega | (have := B.size; omega)) (.float .f64 (ofKey (X)))
  replace A1_1 := At.set_blk (b' := w.heap.size + 1 + 1) (f' := 0) A1_1 (by first | omega | (have := B.size; omega)) (.float .f64 (ofKey (X)))
  replace A1_2 := At.set_blk (b' := w.heap.size + 1 + 1) (f' := 0) A1_2 (by first | omega | (have := B.size; omega)) (.float .f64 (ofKey (X)))
  replace A2_0 := At.set_same A2_0 (.float .f64 (ofKey (X)))
  replace A2_1 := At.set_off (f' := 0) A2_1 (by decide) (.float .f64 (ofKey (X)))
  replace A2_2 := At.set_off (f' := 0) A2_2 (by decide) (.float .f64 (ofKey (X)))
  replace A3_0 := At.set_blk (b' := w.heap.size + 1 + 1) (f' := 0) A3_0 (by first | omega | (have := B.size; omega)) (.float .f64 (ofKey (X)))
  replace A3_1 := At.set_blk (b' := w.heap.size + 1 + 1) (f' := 0) A3_1 (by first | omega | (have := B.size; omega)) (.float .f64 (ofKey (X)))
  replace A0_0 := At.set_blk (b' := w.heap.size + 1 + 1) (f' := 1) A0_0 (by first | omega | (have := B.size; omega)) (.float .f64 (ofKey (Y)))
  replace A0_1 := At.set_blk (b' := w.heap.size + 1 + 1) (f' := 1) A0_1 (by first | omega | (have := B.size; omega)) (.float .f64 (ofKey (Y)))
  replace A0_2 := At.set_blk (b' := w.heap.size + 1 + 1) (f' := 1) A0_2 (by first | omega | (have := B.size; omega)) (.float .f64 (ofKey (Y)))
  replace A1_0 := At.set_blk (b' := w.heap.size + 1 + 1) (f' := 1) A1_0 (by first | omega | (have := B.size; omega)) (.float .f64 (ofKey (Y)))
  replace A1_1 := At.set_blk (b' := w.heap.size + 1 + 1) (f' := 1) A1_1 (by first | omega | (have := B.size; omega)) (.float .f64 (ofKey (Y)))
  replace A1_2 := At.set_blk (b' := w.heap.size + 1 + 1) (f' := 1) A1_2 (by first | omega | (have := B.size; omega)) (.float .f64 (ofKey (Y)))
  replace A2_0 := At.set_off (f' := 1) A2_0 (by decide) (.float .f64 (ofKey (Y)))
  replace A2_1 := At.set_same A2_1 (.float .f64 (ofKey (Y)))
  replace A2_2 := At.set_off (f' := 1) A2_2 (by decide) (.float .f64 (ofKey (Y)))
  replace A3_0 := At.set_blk (b' := w.heap.size + 1 + 1) (f' := 1) A3_0 (by first | omega | (have := B.size; omega)) (.float .f64 (ofKey (Y)))
  replace A3_1 := At.set_blk (b' := w.heap.size + 1 + 1) (f' := 1) A3_1 (by first | omega | (have := B.size; omega)) (.float .f64 (ofKey (Y)))
  replace A0_0 := At.set_blk (b' := w.heap.size + 1 + 1) (f' := 2) A0_0 (by first | omega | (have := B.size; omega)) (.int .i64 (min 1 (min m n)))
  replace A0_1 := At.set_blk (b' := w.heap.size + 1 + 1) (f' := 2) A0_1 (by first | omega | (have := B.size; omega)) (.int .i64 (min 1 (min m n)))
  replace A0_2 := At.set_blk (b' := w.heap.size + 1 + 1) (f' := 2) A0_2 (by first | omega | (have := B.size; omega)) (.int .i64 (min 1 (min m n)))
  replace A1_0 := At.set_blk (b' := w.heap.size + 1 + 1) (f' := 2) A1_0 (by first | omega | (have := B.size; omega)) (.int .i64 (min 1 (min m n)))
  replace A1_1 := At.set_blk (b' := w.heap.size + 1 + 1) (f' := 2) A1_1 (by first | omega | (have := B.size; omega)) (.int .i64 (min 1 (min m n)))
  replace A1_2 := At.set_blk (b' := w.heap.size + 1 + 1) (f' := 2) A1_2 (by first | omega | (have := B.size; omega)) (.int .i64 (min 1 (min m n)))
  replace A2_0 := At.set_off (f' := 2) A2_0 (by decide) (.int .i64 (min 1 (min m n)))
  replace A2_1 := At.set_off (f' := 2) A2_1 (by decide) (.int .i64 (min 1 (min m n)))
  replace A2_2 := At.set_same A2_2 (.int .i64 (min 1 (min m n)))
  replace A3_0 := At.set_blk (b' := w.heap.size + 1 + 1) (f' := 2) A3_0 (by first | omega | (have := B.size; omega)) (.int .i64 (min 1 (min m n)))
  replace A3_1 := At.set_blk (b' := w.heap.size + 1 + 1) (f' := 2) A3_1 (by first | omega | (have := B.size; omega)) (.int .i64 (min 1 (min m n)))
  have B' : Below w.heap.size w (World.setCell (World.setCell (World.setCell w6 ⟨w.heap.size + 1 + 1, 0, none⟩ (.float .f64 (ofKey (X)))) ⟨w.heap.size + 1 + 1, 1, none⟩ (.float .f64 (ofKey (Y)))) ⟨w.heap.size + 1 + 1, 2, none⟩ (.int .i64 (min 1 (min m n)))) := (Below.setCell (Below.setCell (Below.setCell B (p := ⟨w.heap.size + 1 + 1, 0, none⟩) (by first | (show w.heap.size ≤ w.heap.size + 1 + 1; omega) | (have := B.size; show w.heap.size ≤ w.heap.size + 1 + 1; omega)) (.float .f64 (ofKey (X)))) (p := ⟨w.heap.size + 1 + 1, 1, none⟩) (by first | (show w.heap.size ≤ w.heap.size + 1 + 1; omega) | (have := B.size; show w.heap.size ≤ w.heap.size + 1 + 1; omega)) (.float .f64 (ofKey (Y)))) (p := ⟨w.heap.size + 1 + 1, 2, none⟩) (by first | (show w.heap.size ≤ w.heap.size + 1 + 1; omega) | (have := B.size; show w.heap.size ≤ w.heap.size + 1 + 1; omega)) (.int .i64 (min 1 (min m n))))
  clear B
  obtain ⟨wz, hwz⟩ : ∃ wz, wz = (World.setCell (World.setCell (World.setCell w6 ⟨w.heap.size + 1 + 1, 0, none⟩ (.float .f64 (ofKey (X)))) ⟨w.heap.size + 1 + 1, 1, none⟩ (.float .f64 (ofKey (Y)))) ⟨w.heap.size + 1 + 1, 2, none⟩ (.int .i64 (min 1 (min m n)))) := ⟨_, rfl⟩
  rw [← hwz]
  replace A0_0 := At.of A0_0 hwz
  replace A0_1 := At.of A0_1 hwz
  replace A0_2 := At.of A0_2 hwz
  replace A1_0 := At.of A1_0 hwz
  replace A1_1 := At.of A1_1 hwz
  replace A1_2 := At.of A1_2 hwz
  replace A2_0 := At.of A2_0 hwz
  replace A2_1 := At.of A2_1 hwz
  replace A2_2 := At.of A2_2 hwz
  replace A3_0 := At.of A3_0 hwz
  replace A3_1 := At.of A3_1 hwz
  have B := below_of B' hwz
  clear B' hwz
  have F0_0 := A0_0.1; have G0_0 := A0_0.2
  have F0_1 := A0_1.1; have G0_1 := A0_1.2
  have F0_2 := A0_2.1; have G0_2 := A0_2.2
  have F1_0 := A1_0.1; have G1_0 := A1_0.2
  have F1_1 := A1_1.1; have G1_1 := A1_1.2
  have F1_2 := A1_2.1; have G1_2 := A1_2.2
  have F2_0 := A2_0.1; have G2_0 := A2_0.2
  have F2_1 := A2_1.1; have G2_1 := A2_1.2
  have F2_2 := A2_2.1; have G2_2 := A2_2.2
  have F3_0 := A3_0.1; have G3_0 := A3_0.2
  have F3_1 := A3_1.1; have G3_1 := A3_1.2
  have Z0 := A0_0.lt
  have Z1 := A1_0.lt
  have Z2 := A2_0.lt
  have Z3 := A3_0.lt
  refine bodyPost_ret (v := .agg #[.float .f64 (ofKey (X)), .float .f64 (ofKey (Y)), .int .i64 (min 1 (min m n))]) (by simp [results, Try.results12, go_sem, F2_0, F2_1, F2_2]) rfl ⟨rfl, ?_⟩
  exact B

set_option maxHeartbeats 4000000 in
theorem do_two (o : Int) (a b a2 b2 : Nat) (d d2 : Int) (A Bh C D m n : Int) (rA : Rg A) (rB : Rg Bh) (rC : Rg C) (rD : Rg D) (X Y l : Int) (rX : Rg X) (rY : Rg Y) (he : ¬ m = 0) (hf : ¬ n = 0)
    (hNA : ∀ w, Calls Try.prog 20 #[.int .i64 o] w fun e w' => e = .returned (.int .i64 2) ∧ Below w.heap.size w w')
    (hOA : ∀ w, Calls Try.prog 11 #[.agg #[.float .f64 (a), .float .f64 (b)], .int .i64 d] w fun e w' => e = .returned (.agg #[.float .f64 (ofKey (A)), .float .f64 (ofKey (Bh)), .int .i64 (m)]) ∧ Below w.heap.size w w')
    (hOB : ∀ w, Calls Try.prog 11 #[.agg #[.float .f64 (a2), .float .f64 (b2)], .int .i64 d2] w fun e w' => e = .returned (.agg #[.float .f64 (ofKey (C)), .float .f64 (ofKey (D)), .int .i64 (n)]) ∧ Below w.heap.size w w')
    (hAP : ∀ w, Calls Try.prog 13 #[.int .i64 o, .agg #[.float .f64 (ofKey (A)), .float .f64 (ofKey (Bh))], .agg #[.float .f64 (ofKey (C)), .float .f64 (ofKey (D))]] w fun e w' => e = .returned (.agg #[.float .f64 (ofKey (X)), .float .f64 (ofKey (Y))]) ∧ Below w.heap.size w w')
    (hNO : ∀ w, Calls Try.prog 16 #[.agg #[.float .f64 (ofKey (A)), .float .f64 (ofKey (Bh))]] w fun e w' => e = .returned (.bool false) ∧ Below w.heap.size w w')
    (hNP : ∀ w, Calls Try.prog 16 #[.agg #[.float .f64 (ofKey (C)), .float .f64 (ofKey (D))]] w fun e w' => e = .returned (.bool false) ∧ Below w.heap.size w w')
    (hLO : ∀ w, Calls Try.prog 21 #[.int .i64 o, .agg #[.float .f64 (ofKey (A)), .float .f64 (ofKey (Bh))], .agg #[.float .f64 (ofKey (C)), .float .f64 (ofKey (D))], .agg #[.float .f64 (ofKey (X)), .float .f64 (ofKey (Y))]] w fun e w' => e = .returned (.int .i64 l) ∧ Below w.heap.size w w') (w : World) :
    Calls Try.prog 12 #[.int .i64 o, .agg #[.float .f64 (a), .float .f64 (b), .int .i64 (d)], .agg #[.float .f64 (a2), .float .f64 (b2), .int .i64 (d2)]] w fun e w' => e = .returned (.agg #[.float .f64 (ofKey (X)), .float .f64 (ofKey (Y)), .int .i64 (min l (min m n))]) ∧ Below w.heap.size w w' := by
  have NA := Lib.hid hNA
  have OA := Lib.hid hOA
  have OB := Lib.hid hOB
  have AP := Lib.hid hAP
  have NO := Lib.hid hNO
  have NP := Lib.hid hNP
  have LO := Lib.hid hLO
  clear hNA hOA hOB hAP hNO hNP hLO
  have bm : (m == 0) = false := by simpa using he
  have bn : (n == 0) = false := by simpa using hf
  go_enter Try.func12, Try.ntmps12
  go_wp2_with fail
  refine (NA.out _).mono ?_
  rintro e w1 ⟨rfl, hbw1⟩
  obtain ⟨L0, hL0⟩ : ∃ L0, L0 = (World.alloc (World.alloc (World.alloc w (.cells #[.float .f64 (a), .float .f64 (b), .int .i64 (d)] 31)) (.cells #[.float .f64 (a2), .float .f64 (b2), .int .i64 (d2)] 31)) (.cells #[.float .f64 (0), .float .f64 (0), .int .i64 (0)] 31)) := ⟨_, rfl⟩
  have A0_0 : At L0 (w.heap.size) 0 (.float .f64 (a)) := by rw [hL0]; exact ⟨by simp [go_sem], by simp [go_sem]⟩
  have A0_1 : At L0 (w.heap.size) 1 (.float .f64 (b)) := by rw [hL0]; exact ⟨by simp [go_sem], by simp [go_sem]⟩
  have A0_2 : At L0 (w.heap.size) 2 (.int .i64 (d)) := by rw [hL0]; exact ⟨by simp [go_sem], by simp [go_sem]⟩
  have A1_0 : At L0 (w.heap.size + 1) 0 (.float .f64 (a2)) := by rw [hL0]; exact ⟨by simp [go_sem], by simp [go_sem]⟩
  have A1_1 : At L0 (w.heap.size + 1) 1 (.float .f64 (b2)) := by rw [hL0]; exact ⟨by simp [go_sem], by simp [go_sem]⟩
  have A1_2 : At L0 (w.heap.size + 1) 2 (.int .i64 (d2)) := by rw [hL0]; exact ⟨by simp [go_sem], by simp [go_sem]⟩
  have A2_0 : At L0 (w.heap.size + 1 + 1) 0 (.float .f64 (0)) := by rw [hL0]; exact ⟨by simp [go_sem], by simp [go_sem]⟩
  have A2_1 : At L0 (w.heap.size + 1 + 1) 1 (.float .f64 (0)) := by rw [hL0]; exact ⟨by simp [go_sem], by simp [go_sem]⟩
  have A2_2 : At L0 (w.heap.size + 1 + 1) 2 (.int .i64 (0)) := by rw [hL0]; exact ⟨by simp [go_sem], by simp [go_sem]⟩
  subst hL0
  replace A0_0 := At.below (A0_0) hbw1
  replace A0_1 := At.below (A0_1) hbw1
  replace A0_2 := At.below (A0_2) hbw1
  replace A1_0 := At.below (A1_0) hbw1
  replace A1_1 := At.below (A1_1) hbw1
  replace A1_2 := At.below (A1_2) hbw1
  replace A2_0 := At.below (A2_0) hbw1
  replace A2_1 := At.below (A2_1) hbw1
  replace A2_2 := At.below (A2_2) hbw1
  have B := below_alloc (below_alloc (below_alloc (hbw1)))
  clear hbw1
  have F0_0 := A0_0.1; have G0_0 := A0_0.2
  have F0_1 := A0_1.1; have G0_1 := A0_1.2
  have F0_2 := A0_2.1; have G0_2 := A0_2.2
  have F1_0 := A1_0.1; have G1_0 := A1_0.2
  have F1_1 := A1_1.1; have G1_1 := A1_1.2
  have F1_2 := A1_2.1; have G1_2 := A1_2.2
  have F2_0 := A2_0.1; have G2_0 := A2_0.2
  have F2_1 := A2_1.1; have G2_1 := A2_1.2
  have F2_2 := A2_2.1; have G2_2 := A2_2.2
  have Z0 := A0_0.lt
  have Z1 := A1_0.lt
  have Z2 := A2_0.lt
  go_wp2_with fail
  have k0_0 := cell_regrown A0_0.1
  have k0_1 := cell_regrown A0_1.1
  have k0_2 := cell_regrown A0_2.1
  have k1_0 := cell_regrown A1_0.1
  have k1_1 := cell_regrown A1_1.1
  have k1_2 := cell_regrown A1_2.1
  have k2_0 := cell_regrown A2_0.1
  have k2_1 := cell_regrown A2_1.1
  have k2_2 := cell_regrown A2_2.1
  refine wp_region_below_tail 10 (by kernel_rfl) (by kernel_rfl) ?_
  simp only [List.take_succ_cons, List.take_zero, List.drop_succ_cons, List.drop_zero]
  repeat (go_big_quiet_step ((first | (with_reducible exact Calls.regrown_of (OA.out _)) | (with_reducible exact Calls.regrown_of (OB.out _)))))
  refine wpQuiet_nil (fun w2 hbw2 => ?_)
  clear k0_0 k0_1 k0_2 k1_0 k1_1 k1_2 k2_0 k2_1 k2_2
  clear F0_0 G0_0 F0_1 G0_1 F0_2 G0_2 F1_0 G1_0 F1_1 G1_1 F1_2 G1_2 F2_0 G2_0 F2_1 G2_1 F2_2 G2_2 Z0 Z1 Z2
  replace A0_0 := At.below (A0_0) hbw2
  replace A0_1 := At.below (A0_1) hbw2
  replace A0_2 := At.below (A0_2) hbw2
  replace A1_0 := At.below (A1_0) hbw2
  replace A1_1 := At.below (A1_1) hbw2
  replace A1_2 := At.below (A1_2) hbw2
  replace A2_0 := At.below (A2_0) hbw2
  replace A2_1 := At.below (A2_1) hbw2
  replace A2_2 := At.below (A2_2) hbw2
  replace B := below_step B B.size (hbw2)
  clear hbw2
  have F0_0 := A0_0.1; have G0_0 := A0_0.2
  have F0_1 := A0_1.1; have G0_1 := A0_1.2
  have F0_2 := A0_2.1; have G0_2 := A0_2.2
  have F1_0 := A1_0.1; have G1_0 := A1_0.2
  have F1_1 := A1_1.1; have G1_1 := A1_1.2
  have F1_2 := A1_2.1; have G1_2 := A1_2.2
  have F2_0 := A2_0.1; have G2_0 := A2_0.2
  have F2_1 := A2_1.1; have G2_1 := A2_1.2
  have F2_2 := A2_2.1; have G2_2 := A2_2.2
  have Z0 := A0_0.lt
  have Z1 := A1_0.lt
  have Z2 := A2_0.lt
  iterate 8 go_step
  clear F0_0 G0_0 F0_1 G0_1 F0_2 G0_2 F1_0 G1_0 F1_1 G1_1 F1_2 G1_2 F2_0 G2_0 F2_1 G2_1 F2_2 G2_2 Z0 Z1 Z2
  replace A0_0 := At.set_same A0_0 (.float .f64 (ofKey (A)))
  replace A0_1 := At.set_off (f' := 0) A0_1 (by decide) (.float .f64 (ofKey (A)))
  replace A0_2 := At.set_off (f' := 0) A0_2 (by decide) (.float .f64 (ofKey (A)))
  replace A1_0 := At.set_blk (b' := w.heap.size) (f' := 0) A1_0 (by first | omega | (have := B.size; omega)) (.float .f64 (ofKey (A)))
  replace A1_1 := At.set_blk (b' := w.heap.size) (f' := 0) A1_1 (by first | omega | (have := B.size; omega)) (.float .f64 (ofKey (A)))
  replace A1_2 := At.set_blk (b' := w.heap.size) (f' := 0) A1_2 (by first | omega | (have := B.size; omega)) (.float .f64 (ofKey (A)))
  replace A2_0 := At.set_blk (b' := w.heap.size) (f' := 0) A2_0 (by first | omega | (have := B.size; omega)) (.float .f64 (ofKey (A)))
  replace A2_1 := At.set_blk (b' := w.heap.size) (f' := 0) A2_1 (by first | omega | (have := B.size; omega)) (.float .f64 (ofKey (A)))
  replace A2_2 := At.set_blk (b' := w.heap.size) (f' := 0) A2_2 (by first | omega | (have := B.size; omega)) (.float .f64 (ofKey (A)))
  replace A0_0 := At.set_off (f' := 1) A0_0 (by decide) (.float .f64 (ofKey (Bh)))
  replace A0_1 := At.set_same A0_1 (.float .f64 (ofKey (Bh)))
  replace A0_2 := At.set_off (f' := 1) A0_2 (by decide) (.float .f64 (ofKey (Bh)))
  replace A1_0 := At.set_blk (b' := w.heap.size) (f' := 1) A1_0 (by first | omega | (have := B.size; omega)) (.float .f64 (ofKey (Bh)))
  replace A1_1 := At.set_blk (b' := w.heap.size) (f' := 1) A1_1 (by first | omega | (have := B.size; omega)) (.float .f64 (ofKey (Bh)))
  replace A1_2 := At.set_blk (b' := w.heap.size) (f' := 1) A1_2 (by first | omega | (have := B.size; omega)) (.float .f64 (ofKey (Bh)))
  replace A2_0 := At.set_blk (b' := w.heap.size) (f' := 1) A2_0 (by first | omega | (have := B.size; omega)) (.float .f64 (ofKey (Bh)))
  replace A2_1 := At.set_blk (b' := w.heap.size) (f' := 1) A2_1 (by first | omega | (have := B.size; omega)) (.float .f64 (ofKey (Bh)))
  replace A2_2 := At.set_blk (b' := w.heap.size) (f' := 1) A2_2 (by first | omega | (have := B.size; omega)) (.float .f64 (ofKey (Bh)))
  replace A0_0 := At.set_off (f' := 2) A0_0 (by decide) (.int .i64 (m))
  replace A0_1 := At.set_off (f' := 2) A0_1 (by decide) (.int .i64 (m))
  replace A0_2 := At.set_same A0_2 (.int .i64 (m))
  replace A1_0 := At.set_blk (b' := w.heap.size) (f' := 2) A1_0 (by first | omega | (have := B.size; omega)) (.int .i64 (m))
  replace A1_1 := At.set_blk (b' := w.heap.size) (f' := 2) A1_1 (by first | omega | (have := B.size; omega)) (.int .i64 (m))
  replace A1_2 := At.set_blk (b' := w.heap.size) (f' := 2) A1_2 (by first | omega | (have := B.size; omega)) (.int .i64 (m))
  replace A2_0 := At.set_blk (b' := w.heap.size) (f' := 2) A2_0 (by first | omega | (have := B.size; omega)) (.int .i64 (m))
  replace A2_1 := At.set_blk (b' := w.heap.size) (f' := 2) A2_1 (by first | omega | (have := B.size; omega)) (.int .i64 (m))
  replace A2_2 := At.set_blk (b' := w.heap.size) (f' := 2) A2_2 (by first | omega | (have := B.size; omega)) (.int .i64 (m))
  replace A0_0 := At.set_blk (b' := w.heap.size + 1) (f' := 0) A0_0 (by first | omega | (have := B.size; omega)) (.float .f64 (ofKey (C)))
  replace A0_1 := At.set_blk (b' := w.heap.size + 1) (f' := 0) A0_1 (by first | omega | (have := B.size; omega)) (.float .f64 (ofKey (C)))
  replace A0_2 := At.set_blk (b' := w.heap.size + 1) (f' := 0) A0_2 (by first | omega | (have := B.size; omega)) (.float .f64 (ofKey (C)))
  replace A1_0 := At.set_same A1_0 (.float .f64 (ofKey (C)))
  replace A1_1 := At.set_off (f' := 0) A1_1 (by decide) (.float .f64 (ofKey (C)))
  replace A1_2 := At.set_off (f' := 0) A1_2 (by decide) (.float .f64 (ofKey (C)))
  replace A2_0 := At.set_blk (b' := w.heap.size + 1) (f' := 0) A2_0 (by first | omega | (have := B.size; omega)) (.float .f64 (ofKey (C)))
  replace A2_1 := At.set_blk (b' := w.heap.size + 1) (f' := 0) A2_1 (by first | omega | (have := B.size; omega)) (.float .f64 (ofKey (C)))
  replace A2_2 := At.set_blk (b' := w.heap.size + 1) (f' := 0) A2_2 (by first | omega | (have := B.size; omega)) (.float .f64 (ofKey (C)))
  replace A0_0 := At.set_blk (b' := w.heap.size + 1) (f' := 1) A0_0 (by first | omega | (have := B.size; omega)) (.float .f64 (ofKey (D)))
  replace A0_1 := At.set_blk (b' := w.heap.size + 1) (f' := 1) A0_1 (by first | omega | (have := B.size; omega)) (.float .f64 (ofKey (D)))
  replace A0_2 := At.set_blk (b' := w.heap.size + 1) (f' := 1) A0_2 (by first | omega | (have := B.size; omega)) (.float .f64 (ofKey (D)))
  replace A1_0 := At.set_off (f' := 1) A1_0 (by decide) (.float .f64 (ofKey (D)))
  replace A1_1 := At.set_same A1_1 (.float .f64 (ofKey (D)))
  replace A1_2 := At.set_off (f' := 1) A1_2 (by decide) (.float .f64 (ofKey (D)))
  replace A2_0 := At.set_blk (b' := w.heap.size + 1) (f' := 1) A2_0 (by first | omega | (have := B.size; omega)) (.float .f64 (ofKey (D)))
  replace A2_1 := At.set_blk (b' := w.heap.size + 1) (f' := 1) A2_1 (by first | omega | (have := B.size; omega)) (.float .f64 (ofKey (D)))
  replace A2_2 := At.set_blk (b' := w.heap.size + 1) (f' := 1) A2_2 (by first | omega | (have := B.size; omega)) (.float .f64 (ofKey (D)))
  replace A0_0 := At.set_blk (b' := w.heap.size + 1) (f' := 2) A0_0 (by first | omega | (have := B.size; omega)) (.int .i64 (n))
  replace A0_1 := At.set_blk (b' := w.heap.size + 1) (f' := 2) A0_1 (by first | omega | (have := B.size; omega)) (.int .i64 (n))
  replace A0_2 := At.set_blk (b' := w.heap.size + 1) (f' := 2) A0_2 (by first | omega | (have := B.size; omega)) (.int .i64 (n))
  replace A1_0 := At.set_off (f' := 2) A1_0 (by decide) (.int .i64 (n))
  replace A1_1 := At.set_off (f' := 2) A1_1 (by decide) (.int .i64 (n))
  replace A1_2 := At.set_same A1_2 (.int .i64 (n))
  replace A2_0 := At.set_blk (b' := w.heap.size + 1) (f' := 2) A2_0 (by first | omega | (have := B.size; omega)) (.int .i64 (n))
  replace A2_1 := At.set_blk (b' := w.heap.size + 1) (f' := 2) A2_1 (by first | omega | (have := B.size; omega)) (.int .i64 (n))
  replace A2_2 := At.set_blk (b' := w.heap.size + 1) (f' := 2) A2_2 (by first | omega | (have := B.size; omega)) (.int .i64 (n))
  have B' : Below w.heap.size w (World.setCell (World.setCell (World.setCell (World.setCell (World.setCell (World.setCell w2 ⟨w.heap.size, 0, none⟩ (.float .f64 (ofKey (A)))) ⟨w.heap.size, 1, none⟩ (.float .f64 (ofKey (Bh)))) ⟨w.heap.size, 2, none⟩ (.int .i64 (m))) ⟨w.heap.size + 1, 0, none⟩ (.float .f64 (ofKey (C)))) ⟨w.heap.size + 1, 1, none⟩ (.float .f64 (ofKey (D)))) ⟨w.heap.size + 1, 2, none⟩ (.int .i64 (n))) := (Below.setCell (Below.setCell (Below.setCell (Below.setCell (Below.setCell (Below.setCell B (p := ⟨w.heap.size, 0, none⟩) (by first | (show w.heap.size ≤ w.heap.size; omega) | (have := B.size; show w.heap.size ≤ w.heap.size; omega)) (.float .f64 (ofKey (A)))) (p := ⟨w.heap.size, 1, none⟩) (by first | (show w.heap.size ≤ w.heap.size; omega) | (have := B.size; show w.heap.size ≤ w.heap.size; omega)) (.float .f64 (ofKey (Bh)))) (p := ⟨w.heap.size, 2, none⟩) (by first | (show w.heap.size ≤ w.heap.size; omega) | (have := B.size; show w.heap.size ≤ w.heap.size; omega)) (.int .i64 (m))) (p := ⟨w.heap.size + 1, 0, none⟩) (by first | (show w.heap.size ≤ w.heap.size + 1; omega) | (have := B.size; show w.heap.size ≤ w.heap.size + 1; omega)) (.float .f64 (ofKey (C)))) (p := ⟨w.heap.size + 1, 1, none⟩) (by first | (show w.heap.size ≤ w.heap.size + 1; omega) | (have := B.size; show w.heap.size ≤ w.heap.size + 1; omega)) (.float .f64 (ofKey (D)))) (p := ⟨w.heap.size + 1, 2, none⟩) (by first | (show w.heap.size ≤ w.heap.size + 1; omega) | (have := B.size; show w.heap.size ≤ w.heap.size + 1; omega)) (.int .i64 (n)))
  clear B
  obtain ⟨w3, hw3⟩ : ∃ w3, w3 = (World.setCell (World.setCell (World.setCell (World.setCell (World.setCell (World.setCell w2 ⟨w.heap.size, 0, none⟩ (.float .f64 (ofKey (A)))) ⟨w.heap.size, 1, none⟩ (.float .f64 (ofKey (Bh)))) ⟨w.heap.size, 2, none⟩ (.int .i64 (m))) ⟨w.heap.size + 1, 0, none⟩ (.float .f64 (ofKey (C)))) ⟨w.heap.size + 1, 1, none⟩ (.float .f64 (ofKey (D)))) ⟨w.heap.size + 1, 2, none⟩ (.int .i64 (n))) := ⟨_, rfl⟩
  rw [← hw3]
  replace A0_0 := At.of A0_0 hw3
  replace A0_1 := At.of A0_1 hw3
  replace A0_2 := At.of A0_2 hw3
  replace A1_0 := At.of A1_0 hw3
  replace A1_1 := At.of A1_1 hw3
  replace A1_2 := At.of A1_2 hw3
  replace A2_0 := At.of A2_0 hw3
  replace A2_1 := At.of A2_1 hw3
  replace A2_2 := At.of A2_2 hw3
  have B := below_of B' hw3
  clear B' hw3
  have F0_0 := A0_0.1; have G0_0 := A0_0.2
  have F0_1 := A0_1.1; have G0_1 := A0_1.2
  have F0_2 := A0_2.1; have G0_2 := A0_2.2
  have F1_0 := A1_0.1; have G1_0 := A1_0.2
  have F1_1 := A1_1.1; have G1_1 := A1_1.2
  have F1_2 := A1_2.1; have G1_2 := A1_2.2
  have F2_0 := A2_0.1; have G2_0 := A2_0.2
  have F2_1 := A2_1.1; have G2_1 := A2_1.2
  have F2_2 := A2_2.1; have G2_2 := A2_2.2
  have Z0 := A0_0.lt
  have Z1 := A1_0.lt
  have Z2 := A2_0.lt
  go_wp2_with fail
  refine (AP.out _).mono ?_
  rintro e w4 ⟨rfl, hbw4⟩
  clear F0_0 G0_0 F0_1 G0_1 F0_2 G0_2 F1_0 G1_0 F1_1 G1_1 F1_2 G1_2 F2_0 G2_0 F2_1 G2_1 F2_2 G2_2 Z0 Z1 Z2
  replace A0_0 := At.below (A0_0) hbw4
  replace A0_1 := At.below (A0_1) hbw4
  replace A0_2 := At.below (A0_2) hbw4
  replace A1_0 := At.below (A1_0) hbw4
  replace A1_1 := At.below (A1_1) hbw4
  replace A1_2 := At.below (A1_2) hbw4
  replace A2_0 := At.below (A2_0) hbw4
  replace A2_1 := At.below (A2_1) hbw4
  replace A2_2 := At.below (A2_2) hbw4
  replace B := below_step B B.size (hbw4)
  clear hbw4
  have F0_0 := A0_0.1; have G0_0 := A0_0.2
  have F0_1 := A0_1.1; have G0_1 := A0_1.2
  have F0_2 := A0_2.1; have G0_2 := A0_2.2
  have F1_0 := A1_0.1; have G1_0 := A1_0.2
  have F1_1 := A1_1.1; have G1_1 := A1_1.2
  have F1_2 := A1_2.1; have G1_2 := A1_2.2
  have F2_0 := A2_0.1; have G2_0 := A2_0.2
  have F2_1 := A2_1.1; have G2_1 := A2_1.2
  have F2_2 := A2_2.1; have G2_2 := A2_2.2
  have Z0 := A0_0.lt
  have Z1 := A1_0.lt
  have Z2 := A2_0.lt
  go_wp2_with fail
  refine (NO.out _).mono ?_
  rintro e w5 ⟨rfl, hbw5⟩
  clear F0_0 G0_0 F0_1 G0_1 F0_2 G0_2 F1_0 G1_0 F1_1 G1_1 F1_2 G1_2 F2_0 G2_0 F2_1 G2_1 F2_2 G2_2 Z0 Z1 Z2
  have n1 : w.heap.size + 1 + 1 < w4.heap.size := At.lt A2_2
  replace A0_0 := At.below (At.alloc (A0_0)) hbw5
  replace A0_1 := At.below (At.alloc (A0_1)) hbw5
  replace A0_2 := At.below (At.alloc (A0_2)) hbw5
  replace A1_0 := At.below (At.alloc (A1_0)) hbw5
  replace A1_1 := At.below (At.alloc (A1_1)) hbw5
  replace A1_2 := At.below (At.alloc (A1_2)) hbw5
  replace A2_0 := At.below (At.alloc (A2_0)) hbw5
  replace A2_1 := At.below (At.alloc (A2_1)) hbw5
  replace A2_2 := At.below (At.alloc (A2_2)) hbw5
  have A3_0 : At (World.alloc w4 (.cells #[.float .f64 (ofKey (X)), .float .f64 (ofKey (Y))] 27)) (w4.heap.size) 0 (.float .f64 (ofKey (X))) := ⟨by simp [go_sem], by simp [go_sem]⟩
  replace A3_0 := At.below A3_0 hbw5
  have A3_1 : At (World.alloc w4 (.cells #[.float .f64 (ofKey (X)), .float .f64 (ofKey (Y))] 27)) (w4.heap.size) 1 (.float .f64 (ofKey (Y))) := ⟨by simp [go_sem], by simp [go_sem]⟩
  replace A3_1 := At.below A3_1 hbw5
  replace B := below_step B B.size (below_alloc (hbw5))
  clear hbw5
  have F0_0 := A0_0.1; have G0_0 := A0_0.2
  have F0_1 := A0_1.1; have G0_1 := A0_1.2
  have F0_2 := A0_2.1; have G0_2 := A0_2.2
  have F1_0 := A1_0.1; have G1_0 := A1_0.2
  have F1_1 := A1_1.1; have G1_1 := A1_1.2
  have F1_2 := A1_2.1; have G1_2 := A1_2.2
  have F2_0 := A2_0.1; have G2_0 := A2_0.2
  have F2_1 := A2_1.1; have G2_1 := A2_1.2
  have F2_2 := A2_2.1; have G2_2 := A2_2.2
  have F3_0 := A3_0.1; have G3_0 := A3_0.2
  have F3_1 := A3_1.1; have G3_1 := A3_1.2
  have Z0 := A0_0.lt
  have Z1 := A1_0.lt
  have Z2 := A2_0.lt
  have Z3 := A3_0.lt
  go_wp2_with fail
  refine (NP.out _).mono ?_
  rintro e w6 ⟨rfl, hbw6⟩
  clear F0_0 G0_0 F0_1 G0_1 F0_2 G0_2 F1_0 G1_0 F1_1 G1_1 F1_2 G1_2 F2_0 G2_0 F2_1 G2_1 F2_2 G2_2 F3_0 G3_0 F3_1 G3_1 Z0 Z1 Z2 Z3
  replace A0_0 := At.below (A0_0) hbw6
  replace A0_1 := At.below (A0_1) hbw6
  replace A0_2 := At.below (A0_2) hbw6
  replace A1_0 := At.below (A1_0) hbw6
  replace A1_1 := At.below (A1_1) hbw6
  replace A1_2 := At.below (A1_2) hbw6
  replace A2_0 := At.below (A2_0) hbw6
  replace A2_1 := At.below (A2_1) hbw6
  replace A2_2 := At.below (A2_2) hbw6
  replace A3_0 := At.below (A3_0) hbw6
  replace A3_1 := At.below (A3_1) hbw6
  replace B := below_step B B.size (hbw6)
  clear hbw6
  have F0_0 := A0_0.1; have G0_0 := A0_0.2
  have F0_1 := A0_1.1; have G0_1 := A0_1.2
  have F0_2 := A0_2.1; have G0_2 := A0_2.2
  have F1_0 := A1_0.1; have G1_0 := A1_0.2
  have F1_1 := A1_1.1; have G1_1 := A1_1.2
  have F1_2 := A1_2.1; have G1_2 := A1_2.2
  have F2_0 := A2_0.1; have G2_0 := A2_0.2
  have F2_1 := A2_1.1; have G2_1 := A2_1.2
  have F2_2 := A2_2.1; have G2_2 := A2_2.2
  have F3_0 := A3_0.1; have G3_0 := A3_0.2
  have F3_1 := A3_1.1; have G3_1 := A3_1.2
  have Z0 := A0_0.lt
  have Z1 := A1_0.lt
  have Z2 := A2_0.lt
  have Z3 := A3_0.lt
  go_wp2_with fail
  refine (LO.out _).mono ?_
  rintro e w7 ⟨rfl, hbw7⟩
  clear F0_0 G0_0 F0_1 G0_1 F0_2 G0_2 F1_0 G1_0 F1_1 G1_1 F1_2 G1_2 F2_0 G2_0 F2_1 G2_1 F2_2 G2_2 F3_0 G3_0 F3_1 G3_1 Z0 Z1 Z2 Z3
  replace A0_0 := At.below (A0_0) hbw7
  replace A0_1 := At.below (A0_1) hbw7
  replace A0_2 := At.below (A0_2) hbw7
  replace A1_0 := At.below (A1_0) hbw7
  replace A1_1 := At.below (A1_1) hbw7
  replace A1_2 := At.below (A1_2) hbw7
  replace A2_0 := At.below (A2_0) hbw7
  replace A2_1 := At.below (A2_1) hbw7
  replace A2_2 := At.below (A2_2) hbw7
  replace A3_0 := At.below (A3_0) hbw7
  replace A3_1 := At.below (A3_1) hbw7
  replace B := below_step B B.size (hbw7)
  clear hbw7
  have F0_0 := A0_0.1; have G0_0 := A0_0.2
  have F0_1 := A0_1.1; have G0_1 := A0_1.2
  have F0_2 := A0_2.1; have G0_2 := A0_2.2
  have F1_0 := A1_0.1; have G1_0 := A1_0.2
  have F1_1 := A1_1.1; have G1_1 := A1_1.2
  have F1_2 := A1_2.1; have G1_2 := A1_2.2
  have F2_0 := A2_0.1; have G2_0 := A2_0.2
  have F2_1 := A2_1.1; have G2_1 := A2_1.2
  have F2_2 := A2_2.1; have G2_2 := A2_2.2
  have F3_0 := A3_0.1; have G3_0 := A3_0.2
  have F3_1 := A3_1.1; have G3_1 := A3_1.2
  have Z0 := A0_0.lt
  have Z1 := A1_0.lt
  have Z2 := A2_0.lt
  have Z3 := A3_0.lt
  go_wp2_with fail
  clear F0_0 G0_0 F0_1 G0_1 F0_2 G0_2 F1_0 G1_0 F1_1 G1_1 F1_2 G1_2 F2_0 G2_0 F2_1 G2_1 F2_2 G2_2 F3_0 G3_0 F3_1 G3_1 Z0 Z1 Z2 Z3
  replace A0_0 := At.set_blk (b' := w.heap.size + 1 + 1) (f' := 0) A0_0 (by first | omega | (have := B.size; omega)) (.float .f64 (ofKey (X)))
  replace A0_1 := At.set_blk (b' := w.heap.size + 1 + 1) (f' := 0) A0_1 (by first | omega | (have := B.size; omega)) (.float .f64 (ofKey (X)))
  replace A0_2 := At.set_blk (b' := w.heap.size + 1 + 1) (f' := 0) A0_2 (by first | omega | (have := B.size; omega)) (.float .f64 (ofKey (X)))
  replace A1_0 := At.set_blk (b' := w.heap.size + 1 + 1) (f' := 0) A1_0 (by first | omega | (have := B.size; omega)) (.float .f64 (ofKey (X)))
  replace A1_1 := At.set_blk (b' := w.heap.size + 1 + 1) (f' := 0) A1_1 (by first | omega | (have := B.size; omega)) (.float .f64 (ofKey (X)))
  replace A1_2 := At.set_blk (b' := w.heap.size + 1 + 1) (f' := 0) A1_2 (by first | omega | (have := B.size; omega)) (.float .f64 (ofKey (X)))
  replace A2_0 := At.set_same A2_0 (.float .f64 (ofKey (X)))
  replace A2_1 := At.set_off (f' := 0) A2_1 (by decide) (.float .f64 (ofKey (X)))
  replace A2_2 := At.set_off (f' := 0) A2_2 (by decide) (.float .f64 (ofKey (X)))
  replace A3_0 := At.set_blk (b' := w.heap.size + 1 + 1) (f' := 0) A3_0 (by first | omega | (have := B.size; omega)) (.float .f64 (ofKey (X)))
  replace A3_1 := At.set_blk (b' := w.heap.size + 1 + 1) (f' := 0) A3_1 (by first | omega | (have := B.size; omega)) (.float .f64 (ofKey (X)))
  replace A0_0 := At.set_blk (b' := w.heap.size + 1 + 1) (f' := 1) A0_0 (by first | omega | (have := B.size; omega)) (.float .f64 (ofKey (Y)))
  replace A0_1 := At.set_blk (b' := w.heap.size + 1 + 1) (f' := 1) A0_1 (by first | omega | (have := B.size; omega)) (.float .f64 (ofKey (Y)))
  replace A0_2 := At.set_blk (b' := w.heap.size + 1 + 1) (f' := 1) A0_2 (by first | omega | (have := B.size; omega)) (.float .f64 (ofKey (Y)))
  replace A1_0 := At.set_blk (b' := w.heap.size + 1 + 1) (f' := 1) A1_0 (by first | omega | (have := B.size; omega)) (.float .f64 (ofKey (Y)))
  replace A1_1 := At.set_blk (b' := w.heap.size + 1 + 1) (f' := 1) A1_1 (by first | omega | (have := B.size; omega)) (.float .f64 (ofKey (Y)))
  replace A1_2 := At.set_blk (b' := w.heap.size + 1 + 1) (f' := 1) A1_2 (by first | omega | (have := B.size; omega)) (.float .f64 (ofKey (Y)))
  replace A2_0 := At.set_off (f' := 1) A2_0 (by decide) (.float .f64 (ofKey (Y)))
  replace A2_1 := At.set_same A2_1 (.float .f64 (ofKey (Y)))
  replace A2_2 := At.set_off (f' := 1) A2_2 (by decide) (.float .f64 (ofKey (Y)))
  replace A3_0 := At.set_blk (b' := w.heap.size + 1 + 1) (f' := 1) A3_0 (by first | omega | (have := B.size; omega)) (.float .f64 (ofKey (Y)))
  replace A3_1 := At.set_blk (b' := w.heap.size + 1 + 1) (f' := 1) A3_1 (by first | omega | (have := B.size; omega)) (.float .f64 (ofKey (Y)))
  replace A0_0 := At.set_blk (b' := w.heap.size + 1 + 1) (f' := 2) A0_0 (by first | omega | (have := B.size; omega)) (.int .i64 (min l (min m n)))
  replace A0_1 := At.set_blk (b' := w.heap.size + 1 + 1) (f' := 2) A0_1 (by first | omega | (have := B.size; omega)) (.int .i64 (min l (min m n)))
  replace A0_2 := At.set_blk (b' := w.heap.size + 1 + 1) (f' := 2) A0_2 (by first | omega | (have := B.size; omega)) (.int .i64 (min l (min m n)))
  replace A1_0 := At.set_blk (b' := w.heap.size + 1 + 1) (f' := 2) A1_0 (by first | omega | (have := B.size; omega)) (.int .i64 (min l (min m n)))
  replace A1_1 := At.set_blk (b' := w.heap.size + 1 + 1) (f' := 2) A1_1 (by first | omega | (have := B.size; omega)) (.int .i64 (min l (min m n)))
  replace A1_2 := At.set_blk (b' := w.heap.size + 1 + 1) (f' := 2) A1_2 (by first | omega | (have := B.size; omega)) (.int .i64 (min l (min m n)))
  replace A2_0 := At.set_off (f' := 2) A2_0 (by decide) (.int .i64 (min l (min m n)))
  replace A2_1 := At.set_off (f' := 2) A2_1 (by decide) (.int .i64 (min l (min m n)))
  replace A2_2 := At.set_same A2_2 (.int .i64 (min l (min m n)))
  replace A3_0 := At.set_blk (b' := w.heap.size + 1 + 1) (f' := 2) A3_0 (by first | omega | (have := B.size; omega)) (.int .i64 (min l (min m n)))
  replace A3_1 := At.set_blk (b' := w.heap.size + 1 + 1) (f' := 2) A3_1 (by first | omega | (have := B.size; omega)) (.int .i64 (min l (min m n)))
  have B' : Below w.heap.size w (World.setCell (World.setCell (World.setCell w7 ⟨w.heap.size + 1 + 1, 0, none⟩ (.float .f64 (ofKey (X)))) ⟨w.heap.size + 1 + 1, 1, none⟩ (.float .f64 (ofKey (Y)))) ⟨w.heap.size + 1 + 1, 2, none⟩ (.int .i64 (min l (min m n)))) := (Below.setCell (Below.setCell (Below.setCell B (p := ⟨w.heap.size + 1 + 1, 0, none⟩) (by first | (show w.heap.size ≤ w.heap.size + 1 + 1; omega) | (have := B.size; show w.heap.size ≤ w.heap.size + 1 + 1; omega)) (.float .f64 (ofKey (X)))) (p := ⟨w.heap.size + 1 + 1, 1, none⟩) (by first | (show w.heap.size ≤ w.heap.size + 1 + 1; omega) | (have := B.size; show w.heap.size ≤ w.heap.size + 1 + 1; omega)) (.float .f64 (ofKey (Y)))) (p := ⟨w.heap.size + 1 + 1, 2, none⟩) (by first | (show w.heap.size ≤ w.heap.size + 1 + 1; omega) | (have := B.size; show w.heap.size ≤ w.heap.size + 1 + 1; omega)) (.int .i64 (min l (min m n))))
  clear B
  obtain ⟨wz, hwz⟩ : ∃ wz, wz = (World.setCell (World.setCell (World.setCell w7 ⟨w.heap.size + 1 + 1, 0, none⟩ (.float .f64 (ofKey (X)))) ⟨w.heap.size + 1 + 1, 1, none⟩ (.float .f64 (ofKey (Y)))) ⟨w.heap.size + 1 + 1, 2, none⟩ (.int .i64 (min l (min m n)))) := ⟨_, rfl⟩
  rw [← hwz]
  replace A0_0 := At.of A0_0 hwz
  replace A0_1 := At.of A0_1 hwz
  replace A0_2 := At.of A0_2 hwz
  replace A1_0 := At.of A1_0 hwz
  replace A1_1 := At.of A1_1 hwz
  replace A1_2 := At.of A1_2 hwz
  replace A2_0 := At.of A2_0 hwz
  replace A2_1 := At.of A2_1 hwz
  replace A2_2 := At.of A2_2 hwz
  replace A3_0 := At.of A3_0 hwz
  replace A3_1 := At.of A3_1 hwz
  have B := below_of B' hwz
  clear B' hwz
  have F0_0 := A0_0.1; have G0_0 := A0_0.2
  have F0_1 := A0_1.1; have G0_1 := A0_1.2
  have F0_2 := A0_2.1; have G0_2 := A0_2.2
  have F1_0 := A1_0.1; have G1_0 := A1_0.2
  have F1_1 := A1_1.1; have G1_1 := A1_1.2
  have F1_2 := A1_2.1; have G1_2 := A1_2.2
  have F2_0 := A2_0.1; have G2_0 := A2_0.2
  have F2_1 := A2_1.1; have G2_1 := A2_1.2
  have F2_2 := A2_2.1; have G2_2 := A2_2.2
  have F3_0 := A3_0.1; have G3_0 := A3_0.2
  have F3_1 := A3_1.1; have G3_1 := A3_1.2
  have Z0 := A0_0.lt
  have Z1 := A1_0.lt
  have Z2 := A2_0.lt
  have Z3 := A3_0.lt
  refine bodyPost_ret (v := .agg #[.float .f64 (ofKey (X)), .float .f64 (ofKey (Y)), .int .i64 (min l (min m n))]) (by simp [results, Try.results12, go_sem, F2_0, F2_1, F2_2]) rfl ⟨rfl, ?_⟩
  exact B

set_option maxHeartbeats 4000000 in
theorem do_one_ill (o : Int) (a b a2 b2 : Nat) (d d2 : Int) (A Bh C D m n : Int) (rA : Rg A) (rB : Rg Bh) (rC : Rg C) (rD : Rg D) (he : m = 0)
    (hNA : ∀ w, Calls Try.prog 20 #[.int .i64 o] w fun e w' => e = .returned (.int .i64 1) ∧ Below w.heap.size w w')
    (hOA : ∀ w, Calls Try.prog 11 #[.agg #[.float .f64 (a), .float .f64 (b)], .int .i64 d] w fun e w' => e = .returned (.agg #[.float .f64 (ofKey (A)), .float .f64 (ofKey (Bh)), .int .i64 (m)]) ∧ Below w.heap.size w w')
    (hOB : ∀ w, Calls Try.prog 11 #[.agg #[.float .f64 (a2), .float .f64 (b2)], .int .i64 d2] w fun e w' => e = .returned (.agg #[.float .f64 (ofKey (C)), .float .f64 (ofKey (D)), .int .i64 (n)]) ∧ Below w.heap.size w w') (w : World) :
    Calls Try.prog 12 #[.int .i64 o, .agg #[.float .f64 (a), .float .f64 (b), .int .i64 (d)], .agg #[.float .f64 (a2), .float .f64 (b2), .int .i64 (d2)]] w fun e w' => e = .returned (.agg #[.float .f64 (ofKey (PI)), .float .f64 (ofKey (-PI)), .int .i64 (0)]) ∧ Below w.heap.size w w' := by
  have NA := Lib.hid hNA
  have OA := Lib.hid hOA
  have OB := Lib.hid hOB
  clear hNA hOA hOB
  subst he
  go_enter Try.func12, Try.ntmps12
  go_wp2_with fail
  refine (NA.out _).mono ?_
  rintro e w1 ⟨rfl, hbw1⟩
  obtain ⟨L0, hL0⟩ : ∃ L0, L0 = (World.alloc (World.alloc (World.alloc w (.cells #[.float .f64 (a), .float .f64 (b), .int .i64 (d)] 31)) (.cells #[.float .f64 (a2), .float .f64 (b2), .int .i64 (d2)] 31)) (.cells #[.float .f64 (0), .float .f64 (0), .int .i64 (0)] 31)) := ⟨_, rfl⟩
  have A0_0 : At L0 (w.heap.size) 0 (.float .f64 (a)) := by rw [hL0]; exact ⟨by simp [go_sem], by simp [go_sem]⟩
  have A0_1 : At L0 (w.heap.size) 1 (.float .f64 (b)) := by rw [hL0]; exact ⟨by simp [go_sem], by simp [go_sem]⟩
  have A0_2 : At L0 (w.heap.size) 2 (.int .i64 (d)) := by rw [hL0]; exact ⟨by simp [go_sem], by simp [go_sem]⟩
  have A1_0 : At L0 (w.heap.size + 1) 0 (.float .f64 (a2)) := by rw [hL0]; exact ⟨by simp [go_sem], by simp [go_sem]⟩
  have A1_1 : At L0 (w.heap.size + 1) 1 (.float .f64 (b2)) := by rw [hL0]; exact ⟨by simp [go_sem], by simp [go_sem]⟩
  have A1_2 : At L0 (w.heap.size + 1) 2 (.int .i64 (d2)) := by rw [hL0]; exact ⟨by simp [go_sem], by simp [go_sem]⟩
  have A2_0 : At L0 (w.heap.size + 1 + 1) 0 (.float .f64 (0)) := by rw [hL0]; exact ⟨by simp [go_sem], by simp [go_sem]⟩
  have A2_1 : At L0 (w.heap.size + 1 + 1) 1 (.float .f64 (0)) := by rw [hL0]; exact ⟨by simp [go_sem], by simp [go_sem]⟩
  have A2_2 : At L0 (w.heap.size + 1 + 1) 2 (.int .i64 (0)) := by rw [hL0]; exact ⟨by simp [go_sem], by simp [go_sem]⟩
  subst hL0
  replace A0_0 := At.below (A0_0) hbw1
  replace A0_1 := At.below (A0_1) hbw1
  replace A0_2 := At.below (A0_2) hbw1
  replace A1_0 := At.below (A1_0) hbw1
  replace A1_1 := At.below (A1_1) hbw1
  replace A1_2 := At.below (A1_2) hbw1
  replace A2_0 := At.below (A2_0) hbw1
  replace A2_1 := At.below (A2_1) hbw1
  replace A2_2 := At.below (A2_2) hbw1
  have B := below_alloc (below_alloc (below_alloc (hbw1)))
  clear hbw1
  have F0_0 := A0_0.1; have G0_0 := A0_0.2
  have F0_1 := A0_1.1; have G0_1 := A0_1.2
  have F0_2 := A0_2.1; have G0_2 := A0_2.2
  have F1_0 := A1_0.1; have G1_0 := A1_0.2
  have F1_1 := A1_1.1; have G1_1 := A1_1.2
  have F1_2 := A1_2.1; have G1_2 := A1_2.2
  have F2_0 := A2_0.1; have G2_0 := A2_0.2
  have F2_1 := A2_1.1; have G2_1 := A2_1.2
  have F2_2 := A2_2.1; have G2_2 := A2_2.2
  have Z0 := A0_0.lt
  have Z1 := A1_0.lt
  have Z2 := A2_0.lt
  go_wp2_with fail
  have k0_0 := cell_regrown A0_0.1
  have k0_1 := cell_regrown A0_1.1
  have k0_2 := cell_regrown A0_2.1
  have k1_0 := cell_regrown A1_0.1
  have k1_1 := cell_regrown A1_1.1
  have k1_2 := cell_regrown A1_2.1
  have k2_0 := cell_regrown A2_0.1
  have k2_1 := cell_regrown A2_1.1
  have k2_2 := cell_regrown A2_2.1
  refine wp_region_below_tail 10 (by kernel_rfl) (by kernel_rfl) ?_
  simp only [List.take_succ_cons, List.take_zero, List.drop_succ_cons, List.drop_zero]
  repeat (go_big_quiet_step ((first | (with_reducible exact Calls.regrown_of (OA.out _)) | (with_reducible exact Calls.regrown_of (OB.out _)))))
  refine wpQuiet_nil (fun w2 hbw2 => ?_)
  clear k0_0 k0_1 k0_2 k1_0 k1_1 k1_2 k2_0 k2_1 k2_2
  clear F0_0 G0_0 F0_1 G0_1 F0_2 G0_2 F1_0 G1_0 F1_1 G1_1 F1_2 G1_2 F2_0 G2_0 F2_1 G2_1 F2_2 G2_2 Z0 Z1 Z2
  replace A0_0 := At.below (A0_0) hbw2
  replace A0_1 := At.below (A0_1) hbw2
  replace A0_2 := At.below (A0_2) hbw2
  replace A1_0 := At.below (A1_0) hbw2
  replace A1_1 := At.below (A1_1) hbw2
  replace A1_2 := At.below (A1_2) hbw2
  replace A2_0 := At.below (A2_0) hbw2
  replace A2_1 := At.below (A2_1) hbw2
  replace A2_2 := At.below (A2_2) hbw2
  replace B := below_step B B.size (hbw2)
  clear hbw2
  have F0_0 := A0_0.1; have G0_0 := A0_0.2
  have F0_1 := A0_1.1; have G0_1 := A0_1.2
  have F0_2 := A0_2.1; have G0_2 := A0_2.2
  have F1_0 := A1_0.1; have G1_0 := A1_0.2
  have F1_1 := A1_1.1; have G1_1 := A1_1.2
  have F1_2 := A1_2.1; have G1_2 := A1_2.2
  have F2_0 := A2_0.1; have G2_0 := A2_0.2
  have F2_1 := A2_1.1; have G2_1 := A2_1.2
  have F2_2 := A2_2.1; have G2_2 := A2_2.2
  have Z0 := A0_0.lt
  have Z1 := A1_0.lt
  have Z2 := A2_0.lt
  iterate 8 go_step
  clear F0_0 G0_0 F0_1 G0_1 F0_2 G0_2 F1_0 G1_0 F1_1 G1_1 F1_2 G1_2 F2_0 G2_0 F2_1 G2_1 F2_2 G2_2 Z0 Z1 Z2
  replace A0_0 := At.set_same A0_0 (.float .f64 (ofKey (A)))
  replace A0_1 := At.set_off (f' := 0) A0_1 (by decide) (.float .f64 (ofKey (A)))
  replace A0_2 := At.set_off (f' := 0) A0_2 (by decide) (.float .f64 (ofKey (A)))
  replace A1_0 := At.set_blk (b' := w.heap.size) (f' := 0) A1_0 (by first | omega | (have := B.size; omega)) (.float .f64 (ofKey (A)))
  replace A1_1 := At.set_blk (b' := w.heap.size) (f' := 0) A1_1 (by first | omega | (have := B.size; omega)) (.float .f64 (ofKey (A)))
  replace A1_2 := At.set_blk (b' := w.heap.size) (f' := 0) A1_2 (by first | omega | (have := B.size; omega)) (.float .f64 (ofKey (A)))
  replace A2_0 := At.set_blk (b' := w.heap.size) (f' := 0) A2_0 (by first | omega | (have := B.size; omega)) (.float .f64 (ofKey (A)))
  replace A2_1 := At.set_blk (b' := w.heap.size) (f' := 0) A2_1 (by first | omega | (have := B.size; omega)) (.float .f64 (ofKey (A)))
  replace A2_2 := At.set_blk (b' := w.heap.size) (f' := 0) A2_2 (by first | omega | (have := B.size; omega)) (.float .f64 (ofKey (A)))
  replace A0_0 := At.set_off (f' := 1) A0_0 (by decide) (.float .f64 (ofKey (Bh)))
  replace A0_1 := At.set_same A0_1 (.float .f64 (ofKey (Bh)))
  replace A0_2 := At.set_off (f' := 1) A0_2 (by decide) (.float .f64 (ofKey (Bh)))
  replace A1_0 := At.set_blk (b' := w.heap.size) (f' := 1) A1_0 (by first | omega | (have := B.size; omega)) (.float .f64 (ofKey (Bh)))
  replace A1_1 := At.set_blk (b' := w.heap.size) (f' := 1) A1_1 (by first | omega | (have := B.size; omega)) (.float .f64 (ofKey (Bh)))
  replace A1_2 := At.set_blk (b' := w.heap.size) (f' := 1) A1_2 (by first | omega | (have := B.size; omega)) (.float .f64 (ofKey (Bh)))
  replace A2_0 := At.set_blk (b' := w.heap.size) (f' := 1) A2_0 (by first | omega | (have := B.size; omega)) (.float .f64 (ofKey (Bh)))
  replace A2_1 := At.set_blk (b' := w.heap.size) (f' := 1) A2_1 (by first | omega | (have := B.size; omega)) (.float .f64 (ofKey (Bh)))
  replace A2_2 := At.set_blk (b' := w.heap.size) (f' := 1) A2_2 (by first | omega | (have := B.size; omega)) (.float .f64 (ofKey (Bh)))
  replace A0_0 := At.set_off (f' := 2) A0_0 (by decide) (.int .i64 (0))
  replace A0_1 := At.set_off (f' := 2) A0_1 (by decide) (.int .i64 (0))
  replace A0_2 := At.set_same A0_2 (.int .i64 (0))
  replace A1_0 := At.set_blk (b' := w.heap.size) (f' := 2) A1_0 (by first | omega | (have := B.size; omega)) (.int .i64 (0))
  replace A1_1 := At.set_blk (b' := w.heap.size) (f' := 2) A1_1 (by first | omega | (have := B.size; omega)) (.int .i64 (0))
  replace A1_2 := At.set_blk (b' := w.heap.size) (f' := 2) A1_2 (by first | omega | (have := B.size; omega)) (.int .i64 (0))
  replace A2_0 := At.set_blk (b' := w.heap.size) (f' := 2) A2_0 (by first | omega | (have := B.size; omega)) (.int .i64 (0))
  replace A2_1 := At.set_blk (b' := w.heap.size) (f' := 2) A2_1 (by first | omega | (have := B.size; omega)) (.int .i64 (0))
  replace A2_2 := At.set_blk (b' := w.heap.size) (f' := 2) A2_2 (by first | omega | (have := B.size; omega)) (.int .i64 (0))
  replace A0_0 := At.set_blk (b' := w.heap.size + 1) (f' := 0) A0_0 (by first | omega | (have := B.size; omega)) (.float .f64 (ofKey (C)))
  replace A0_1 := At.set_blk (b' := w.heap.size + 1) (f' := 0) A0_1 (by first | omega | (have := B.size; omega)) (.float .f64 (ofKey (C)))
  replace A0_2 := At.set_blk (b' := w.heap.size + 1) (f' := 0) A0_2 (by first | omega | (have := B.size; omega)) (.float .f64 (ofKey (C)))
  replace A1_0 := At.set_same A1_0 (.float .f64 (ofKey (C)))
  replace A1_1 := At.set_off (f' := 0) A1_1 (by decide) (.float .f64 (ofKey (C)))
  replace A1_2 := At.set_off (f' := 0) A1_2 (by decide) (.float .f64 (ofKey (C)))
  replace A2_0 := At.set_blk (b' := w.heap.size + 1) (f' := 0) A2_0 (by first | omega | (have := B.size; omega)) (.float .f64 (ofKey (C)))
  replace A2_1 := At.set_blk (b' := w.heap.size + 1) (f' := 0) A2_1 (by first | omega | (have := B.size; omega)) (.float .f64 (ofKey (C)))
  replace A2_2 := At.set_blk (b' := w.heap.size + 1) (f' := 0) A2_2 (by first | omega | (have := B.size; omega)) (.float .f64 (ofKey (C)))
  replace A0_0 := At.set_blk (b' := w.heap.size + 1) (f' := 1) A0_0 (by first | omega | (have := B.size; omega)) (.float .f64 (ofKey (D)))
  replace A0_1 := At.set_blk (b' := w.heap.size + 1) (f' := 1) A0_1 (by first | omega | (have := B.size; omega)) (.float .f64 (ofKey (D)))
  replace A0_2 := At.set_blk (b' := w.heap.size + 1) (f' := 1) A0_2 (by first | omega | (have := B.size; omega)) (.float .f64 (ofKey (D)))
  replace A1_0 := At.set_off (f' := 1) A1_0 (by decide) (.float .f64 (ofKey (D)))
  replace A1_1 := At.set_same A1_1 (.float .f64 (ofKey (D)))
  replace A1_2 := At.set_off (f' := 1) A1_2 (by decide) (.float .f64 (ofKey (D)))
  replace A2_0 := At.set_blk (b' := w.heap.size + 1) (f' := 1) A2_0 (by first | omega | (have := B.size; omega)) (.float .f64 (ofKey (D)))
  replace A2_1 := At.set_blk (b' := w.heap.size + 1) (f' := 1) A2_1 (by first | omega | (have := B.size; omega)) (.float .f64 (ofKey (D)))
  replace A2_2 := At.set_blk (b' := w.heap.size + 1) (f' := 1) A2_2 (by first | omega | (have := B.size; omega)) (.float .f64 (ofKey (D)))
  replace A0_0 := At.set_blk (b' := w.heap.size + 1) (f' := 2) A0_0 (by first | omega | (have := B.size; omega)) (.int .i64 (n))
  replace A0_1 := At.set_blk (b' := w.heap.size + 1) (f' := 2) A0_1 (by first | omega | (have := B.size; omega)) (.int .i64 (n))
  replace A0_2 := At.set_blk (b' := w.heap.size + 1) (f' := 2) A0_2 (by first | omega | (have := B.size; omega)) (.int .i64 (n))
  replace A1_0 := At.set_off (f' := 2) A1_0 (by decide) (.int .i64 (n))
  replace A1_1 := At.set_off (f' := 2) A1_1 (by decide) (.int .i64 (n))
  replace A1_2 := At.set_same A1_2 (.int .i64 (n))
  replace A2_0 := At.set_blk (b' := w.heap.size + 1) (f' := 2) A2_0 (by first | omega | (have := B.size; omega)) (.int .i64 (n))
  replace A2_1 := At.set_blk (b' := w.heap.size + 1) (f' := 2) A2_1 (by first | omega | (have := B.size; omega)) (.int .i64 (n))
  replace A2_2 := At.set_blk (b' := w.heap.size + 1) (f' := 2) A2_2 (by first | omega | (have := B.size; omega)) (.int .i64 (n))
  have B' : Below w.heap.size w (World.setCell (World.setCell (World.setCell (World.setCell (World.setCell (World.setCell w2 ⟨w.heap.size, 0, none⟩ (.float .f64 (ofKey (A)))) ⟨w.heap.size, 1, none⟩ (.float .f64 (ofKey (Bh)))) ⟨w.heap.size, 2, none⟩ (.int .i64 (0))) ⟨w.heap.size + 1, 0, none⟩ (.float .f64 (ofKey (C)))) ⟨w.heap.size + 1, 1, none⟩ (.float .f64 (ofKey (D)))) ⟨w.heap.size + 1, 2, none⟩ (.int .i64 (n))) := (Below.setCell (Below.setCell (Below.setCell (Below.setCell (Below.setCell (Below.setCell B (p := ⟨w.heap.size, 0, none⟩) (by first | (show w.heap.size ≤ w.heap.size; omega) | (have := B.size; show w.heap.size ≤ w.heap.size; omega)) (.float .f64 (ofKey (A)))) (p := ⟨w.heap.size, 1, none⟩) (by first | (show w.heap.size ≤ w.heap.size; omega) | (have := B.size; show w.heap.size ≤ w.heap.size; omega)) (.float .f64 (ofKey (Bh)))) (p := ⟨w.heap.size, 2, none⟩) (by first | (show w.heap.size ≤ w.heap.size; omega) | (have := B.size; show w.heap.size ≤ w.heap.size; omega)) (.int .i64 (0))) (p := ⟨w.heap.size + 1, 0, none⟩) (by first | (show w.heap.size ≤ w.heap.size + 1; omega) | (have := B.size; show w.heap.size ≤ w.heap.size + 1; omega)) (.float .f64 (ofKey (C)))) (p := ⟨w.heap.size + 1, 1, none⟩) (by first | (show w.heap.size ≤ w.heap.size + 1; omega) | (have := B.size; show w.heap.size ≤ w.heap.size + 1; omega)) (.float .f64 (ofKey (D)))) (p := ⟨w.heap.size + 1, 2, none⟩) (by first | (show w.heap.size ≤ w.heap.size + 1; omega) | (have := B.size; show w.heap.size ≤ w.heap.size + 1; omega)) (.int .i64 (n)))
  clear B
  obtain ⟨w3, hw3⟩ : ∃ w3, w3 = (World.setCell (World.setCell (World.setCell (World.setCell (World.setCell (World.setCell w2 ⟨w.heap.size, 0, none⟩ (.float .f64 (ofKey (A)))) ⟨w.heap.size, 1, none⟩ (.float .f64 (ofKey (Bh)))) ⟨w.heap.size, 2, none⟩ (.int .i64 (0))) ⟨w.heap.size + 1, 0, none⟩ (.float .f64 (ofKey (C)))) ⟨w.heap.size + 1, 1, none⟩ (.float .f64 (ofKey (D)))) ⟨w.heap.size + 1, 2, none⟩ (.int .i64 (n))) := ⟨_, rfl⟩
  rw [← hw3]
  replace A0_0 := At.of A0_0 hw3
  replace A0_1 := At.of A0_1 hw3
  replace A0_2 := At.of A0_2 hw3
  replace A1_0 := At.of A1_0 hw3
  replace A1_1 := At.of A1_1 hw3
  replace A1_2 := At.of A1_2 hw3
  replace A2_0 := At.of A2_0 hw3
  replace A2_1 := At.of A2_1 hw3
  replace A2_2 := At.of A2_2 hw3
  have B := below_of B' hw3
  clear B' hw3
  have F0_0 := A0_0.1; have G0_0 := A0_0.2
  have F0_1 := A0_1.1; have G0_1 := A0_1.2
  have F0_2 := A0_2.1; have G0_2 := A0_2.2
  have F1_0 := A1_0.1; have G1_0 := A1_0.2
  have F1_1 := A1_1.1; have G1_1 := A1_1.2
  have F1_2 := A1_2.1; have G1_2 := A1_2.2
  have F2_0 := A2_0.1; have G2_0 := A2_0.2
  have F2_1 := A2_1.1; have G2_1 := A2_1.2
  have F2_2 := A2_2.1; have G2_2 := A2_2.2
  have Z0 := A0_0.lt
  have Z1 := A1_0.lt
  have Z2 := A2_0.lt
  go_wp2_with fail
  clear F0_0 G0_0 F0_1 G0_1 F0_2 G0_2 F1_0 G1_0 F1_1 G1_1 F1_2 G1_2 F2_0 G2_0 F2_1 G2_1 F2_2 G2_2 Z0 Z1 Z2
  replace A0_0 := At.set_blk (b' := w.heap.size + 1) (f' := 0) A0_0 (by first | omega | (have := B.size; omega)) (.float .f64 (ofKey (A)))
  replace A0_1 := At.set_blk (b' := w.heap.size + 1) (f' := 0) A0_1 (by first | omega | (have := B.size; omega)) (.float .f64 (ofKey (A)))
  replace A0_2 := At.set_blk (b' := w.heap.size + 1) (f' := 0) A0_2 (by first | omega | (have := B.size; omega)) (.float .f64 (ofKey (A)))
  replace A1_0 := At.set_same A1_0 (.float .f64 (ofKey (A)))
  replace A1_1 := At.set_off (f' := 0) A1_1 (by decide) (.float .f64 (ofKey (A)))
  replace A1_2 := At.set_off (f' := 0) A1_2 (by decide) (.float .f64 (ofKey (A)))
  replace A2_0 := At.set_blk (b' := w.heap.size + 1) (f' := 0) A2_0 (by first | omega | (have := B.size; omega)) (.float .f64 (ofKey (A)))
  replace A2_1 := At.set_blk (b' := w.heap.size + 1) (f' := 0) A2_1 (by first | omega | (have := B.size; omega)) (.float .f64 (ofKey (A)))
  replace A2_2 := At.set_blk (b' := w.heap.size + 1) (f' := 0) A2_2 (by first | omega | (have := B.size; omega)) (.float .f64 (ofKey (A)))
  replace A0_0 := At.set_blk (b' := w.heap.size + 1) (f' := 1) A0_0 (by first | omega | (have := B.size; omega)) (.float .f64 (ofKey (Bh)))
  replace A0_1 := At.set_blk (b' := w.heap.size + 1) (f' := 1) A0_1 (by first | omega | (have := B.size; omega)) (.float .f64 (ofKey (Bh)))
  replace A0_2 := At.set_blk (b' := w.heap.size + 1) (f' := 1) A0_2 (by first | omega | (have := B.size; omega)) (.float .f64 (ofKey (Bh)))
  replace A1_0 := At.set_off (f' := 1) A1_0 (by decide) (.float .f64 (ofKey (Bh)))
  replace A1_1 := At.set_same A1_1 (.float .f64 (ofKey (Bh)))
  replace A1_2 := At.set_off (f' := 1) A1_2 (by decide) (.float .f64 (ofKey (Bh)))
  replace A2_0 := At.set_blk (b' := w.heap.size + 1) (f' := 1) A2_0 (by first | omega | (have := B.size; omega)) (.float .f64 (ofKey (Bh)))
  replace A2_1 := At.set_blk (b' := w.heap.size + 1) (f' := 1) A2_1 (by first | omega | (have := B.size; omega)) (.float .f64 (ofKey (Bh)))
  replace A2_2 := At.set_blk (b' := w.heap.size + 1) (f' := 1) A2_2 (by first | omega | (have := B.size; omega)) (.float .f64 (ofKey (Bh)))
  replace A0_0 := At.set_blk (b' := w.heap.size + 1) (f' := 2) A0_0 (by first | omega | (have := B.size; omega)) (.int .i64 (0))
  replace A0_1 := At.set_blk (b' := w.heap.size + 1) (f' := 2) A0_1 (by first | omega | (have := B.size; omega)) (.int .i64 (0))
  replace A0_2 := At.set_blk (b' := w.heap.size + 1) (f' := 2) A0_2 (by first | omega | (have := B.size; omega)) (.int .i64 (0))
  replace A1_0 := At.set_off (f' := 2) A1_0 (by decide) (.int .i64 (0))
  replace A1_1 := At.set_off (f' := 2) A1_1 (by decide) (.int .i64 (0))
  replace A1_2 := At.set_same A1_2 (.int .i64 (0))
  replace A2_0 := At.set_blk (b' := w.heap.size + 1) (f' := 2) A2_0 (by first | omega | (have := B.size; omega)) (.int .i64 (0))
  replace A2_1 := At.set_blk (b' := w.heap.size + 1) (f' := 2) A2_1 (by first | omega | (have := B.size; omega)) (.int .i64 (0))
  replace A2_2 := At.set_blk (b' := w.heap.size + 1) (f' := 2) A2_2 (by first | omega | (have := B.size; omega)) (.int .i64 (0))
  have B' : Below w.heap.size w (World.setCell (World.setCell (World.setCell w3 ⟨w.heap.size + 1, 0, none⟩ (.float .f64 (ofKey (A)))) ⟨w.heap.size + 1, 1, none⟩ (.float .f64 (ofKey (Bh)))) ⟨w.heap.size + 1, 2, none⟩ (.int .i64 (0))) := (Below.setCell (Below.setCell (Below.setCell B (p := ⟨w.heap.size + 1, 0, none⟩) (by first | (show w.heap.size ≤ w.heap.size + 1; omega) | (have := B.size; show w.heap.size ≤ w.heap.size + 1; omega)) (.float .f64 (ofKey (A)))) (p := ⟨w.heap.size + 1, 1, none⟩) (by first | (show w.heap.size ≤ w.heap.size + 1; omega) | (have := B.size; show w.heap.size ≤ w.heap.size + 1; omega)) (.float .f64 (ofKey (Bh)))) (p := ⟨w.heap.size + 1, 2, none⟩) (by first | (show w.heap.size ≤ w.heap.size + 1; omega) | (have := B.size; show w.heap.size ≤ w.heap.size + 1; omega)) (.int .i64 (0)))
  clear B
  obtain ⟨w4, hw4⟩ : ∃ w4, w4 = (World.setCell (World.setCell (World.setCell w3 ⟨w.heap.size + 1, 0, none⟩ (.float .f64 (ofKey (A)))) ⟨w.heap.size + 1, 1, none⟩ (.float .f64 (ofKey (Bh)))) ⟨w.heap.size + 1, 2, none⟩ (.int .i64 (0))) := ⟨_, rfl⟩
  rw [← hw4]
  replace A0_0 := At.of A0_0 hw4
  replace A0_1 := At.of A0_1 hw4
  replace A0_2 := At.of A0_2 hw4
  replace A1_0 := At.of A1_0 hw4
  replace A1_1 := At.of A1_1 hw4
  replace A1_2 := At.of A1_2 hw4
  replace A2_0 := At.of A2_0 hw4
  replace A2_1 := At.of A2_1 hw4
  replace A2_2 := At.of A2_2 hw4
  have B := below_of B' hw4
  clear B' hw4
  have F0_0 := A0_0.1; have G0_0 := A0_0.2
  have F0_1 := A0_1.1; have G0_1 := A0_1.2
  have F0_2 := A0_2.1; have G0_2 := A0_2.2
  have F1_0 := A1_0.1; have G1_0 := A1_0.2
  have F1_1 := A1_1.1; have G1_1 := A1_1.2
  have F1_2 := A1_2.1; have G1_2 := A1_2.2
  have F2_0 := A2_0.1; have G2_0 := A2_0.2
  have F2_1 := A2_1.1; have G2_1 := A2_1.2
  have F2_2 := A2_2.1; have G2_2 := A2_2.2
  have Z0 := A0_0.lt
  have Z1 := A1_0.lt
  have Z2 := A2_0.lt
  go_wp2_with fail
  refine (decoill_any _).mono ?_
  rintro e w5 ⟨rfl, hbw5⟩
  clear F0_0 G0_0 F0_1 G0_1 F0_2 G0_2 F1_0 G1_0 F1_1 G1_1 F1_2 G1_2 F2_0 G2_0 F2_1 G2_1 F2_2 G2_2 Z0 Z1 Z2
  replace A0_0 := At.below (A0_0) hbw5
  replace A0_1 := At.below (A0_1) hbw5
  replace A0_2 := At.below (A0_2) hbw5
  replace A1_0 := At.below (A1_0) hbw5
  replace A1_1 := At.below (A1_1) hbw5
  replace A1_2 := At.below (A1_2) hbw5
  replace A2_0 := At.below (A2_0) hbw5
  replace A2_1 := At.below (A2_1) hbw5
  replace A2_2 := At.below (A2_2) hbw5
  replace B := below_step B B.size (hbw5)
  clear hbw5
  have F0_0 := A0_0.1; have G0_0 := A0_0.2
  have F0_1 := A0_1.1; have G0_1 := A0_1.2
  have F0_2 := A0_2.1; have G0_2 := A0_2.2
  have F1_0 := A1_0.1; have G1_0 := A1_0.2
  have F1_1 := A1_1.1; have G1_1 := A1_1.2
  have F1_2 := A1_2.1; have G1_2 := A1_2.2
  have F2_0 := A2_0.1; have G2_0 := A2_0.2
  have F2_1 := A2_1.1; have G2_1 := A2_1.2
  have F2_2 := A2_2.1; have G2_2 := A2_2.2
  have Z0 := A0_0.lt
  have Z1 := A1_0.lt
  have Z2 := A2_0.lt
  go_wp2_with fail
  clear F0_0 G0_0 F0_1 G0_1 F0_2 G0_2 F1_0 G1_0 F1_1 G1_1 F1_2 G1_2 F2_0 G2_0 F2_1 G2_1 F2_2 G2_2 Z0 Z1 Z2
  replace A0_0 := At.set_blk (b' := w.heap.size + 1 + 1) (f' := 0) A0_0 (by first | omega | (have := B.size; omega)) (.float .f64 (ofKey (PI)))
  replace A0_1 := At.set_blk (b' := w.heap.size + 1 + 1) (f' := 0) A0_1 (by first | omega | (have := B.size; omega)) (.float .f64 (ofKey (PI)))
  replace A0_2 := At.set_blk (b' := w.heap.size + 1 + 1) (f' := 0) A0_2 (by first | omega | (have := B.size; omega)) (.float .f64 (ofKey (PI)))
  replace A1_0 := At.set_blk (b' := w.heap.size + 1 + 1) (f' := 0) A1_0 (by first | omega | (have := B.size; omega)) (.float .f64 (ofKey (PI)))
  replace A1_1 := At.set_blk (b' := w.heap.size + 1 + 1) (f' := 0) A1_1 (by first | omega | (have := B.size; omega)) (.float .f64 (ofKey (PI)))
  replace A1_2 := At.set_blk (b' := w.heap.size + 1 + 1) (f' := 0) A1_2 (by first | omega | (have := B.size; omega)) (.float .f64 (ofKey (PI)))
  replace A2_0 := At.set_same A2_0 (.float .f64 (ofKey (PI)))
  replace A2_1 := At.set_off (f' := 0) A2_1 (by decide) (.float .f64 (ofKey (PI)))
  replace A2_2 := At.set_off (f' := 0) A2_2 (by decide) (.float .f64 (ofKey (PI)))
  replace A0_0 := At.set_blk (b' := w.heap.size + 1 + 1) (f' := 1) A0_0 (by first | omega | (have := B.size; omega)) (.float .f64 (ofKey (-PI)))
  replace A0_1 := At.set_blk (b' := w.heap.size + 1 + 1) (f' := 1) A0_1 (by first | omega | (have := B.size; omega)) (.float .f64 (ofKey (-PI)))
  replace A0_2 := At.set_blk (b' := w.heap.size + 1 + 1) (f' := 1) A0_2 (by first | omega | (have := B.size; omega)) (.float .f64 (ofKey (-PI)))
  replace A1_0 := At.set_blk (b' := w.heap.size + 1 + 1) (f' := 1) A1_0 (by first | omega | (have := B.size; omega)) (.float .f64 (ofKey (-PI)))
  replace A1_1 := At.set_blk (b' := w.heap.size + 1 + 1) (f' := 1) A1_1 (by first | omega | (have := B.size; omega)) (.float .f64 (ofKey (-PI)))
  replace A1_2 := At.set_blk (b' := w.heap.size + 1 + 1) (f' := 1) A1_2 (by first | omega | (have := B.size; omega)) (.float .f64 (ofKey (-PI)))
  replace A2_0 := At.set_off (f' := 1) A2_0 (by decide) (.float .f64 (ofKey (-PI)))
  replace A2_1 := At.set_same A2_1 (.float .f64 (ofKey (-PI)))
  replace A2_2 := At.set_off (f' := 1) A2_2 (by decide) (.float .f64 (ofKey (-PI)))
  replace A0_0 := At.set_blk (b' := w.heap.size + 1 + 1) (f' := 2) A0_0 (by first | omega | (have := B.size; omega)) (.int .i64 (0))
  replace A0_1 := At.set_blk (b' := w.heap.size + 1 + 1) (f' := 2) A0_1 (by first | omega | (have := B.size; omega)) (.int .i64 (0))
  replace A0_2 := At.set_blk (b' := w.heap.size + 1 + 1) (f' := 2) A0_2 (by first | omega | (have := B.size; omega)) (.int .i64 (0))
  replace A1_0 := At.set_blk (b' := w.heap.size + 1 + 1) (f' := 2) A1_0 (by first | omega | (have := B.size; omega)) (.int .i64 (0))
  replace A1_1 := At.set_blk (b' := w.heap.size + 1 + 1) (f' := 2) A1_1 (by first | omega | (have := B.size; omega)) (.int .i64 (0))
  replace A1_2 := At.set_blk (b' := w.heap.size + 1 + 1) (f' := 2) A1_2 (by first | omega | (have := B.size; omega)) (.int .i64 (0))
  replace A2_0 := At.set_off (f' := 2) A2_0 (by decide) (.int .i64 (0))
  replace A2_1 := At.set_off (f' := 2) A2_1 (by decide) (.int .i64 (0))
  replace A2_2 := At.set_same A2_2 (.int .i64 (0))
  have B' : Below w.heap.size w (World.setCell (World.setCell (World.setCell w5 ⟨w.heap.size + 1 + 1, 0, none⟩ (.float .f64 (ofKey (PI)))) ⟨w.heap.size + 1 + 1, 1, none⟩ (.float .f64 (ofKey (-PI)))) ⟨w.heap.size + 1 + 1, 2, none⟩ (.int .i64 (0))) := (Below.setCell (Below.setCell (Below.setCell B (p := ⟨w.heap.size + 1 + 1, 0, none⟩) (by first | (show w.heap.size ≤ w.heap.size + 1 + 1; omega) | (have := B.size; show w.heap.size ≤ w.heap.size + 1 + 1; omega)) (.float .f64 (ofKey (PI)))) (p := ⟨w.heap.size + 1 + 1, 1, none⟩) (by first | (show w.heap.size ≤ w.heap.size + 1 + 1; omega) | (have := B.size; show w.heap.size ≤ w.heap.size + 1 + 1; omega)) (.float .f64 (ofKey (-PI)))) (p := ⟨w.heap.size + 1 + 1, 2, none⟩) (by first | (show w.heap.size ≤ w.heap.size + 1 + 1; omega) | (have := B.size; show w.heap.size ≤ w.heap.size + 1 + 1; omega)) (.int .i64 (0)))
  clear B
  obtain ⟨wz, hwz⟩ : ∃ wz, wz = (World.setCell (World.setCell (World.setCell w5 ⟨w.heap.size + 1 + 1, 0, none⟩ (.float .f64 (ofKey (PI)))) ⟨w.heap.size + 1 + 1, 1, none⟩ (.float .f64 (ofKey (-PI)))) ⟨w.heap.size + 1 + 1, 2, none⟩ (.int .i64 (0))) := ⟨_, rfl⟩
  rw [← hwz]
  replace A0_0 := At.of A0_0 hwz
  replace A0_1 := At.of A0_1 hwz
  replace A0_2 := At.of A0_2 hwz
  replace A1_0 := At.of A1_0 hwz
  replace A1_1 := At.of A1_1 hwz
  replace A1_2 := At.of A1_2 hwz
  replace A2_0 := At.of A2_0 hwz
  replace A2_1 := At.of A2_1 hwz
  replace A2_2 := At.of A2_2 hwz
  have B := below_of B' hwz
  clear B' hwz
  have F0_0 := A0_0.1; have G0_0 := A0_0.2
  have F0_1 := A0_1.1; have G0_1 := A0_1.2
  have F0_2 := A0_2.1; have G0_2 := A0_2.2
  have F1_0 := A1_0.1; have G1_0 := A1_0.2
  have F1_1 := A1_1.1; have G1_1 := A1_1.2
  have F1_2 := A1_2.1; have G1_2 := A1_2.2
  have F2_0 := A2_0.1; have G2_0 := A2_0.2
  have F2_1 := A2_1.1; have G2_1 := A2_1.2
  have F2_2 := A2_2.1; have G2_2 := A2_2.2
  have Z0 := A0_0.lt
  have Z1 := A1_0.lt
  have Z2 := A2_0.lt
  refine bodyPost_ret (v := .agg #[.float .f64 (ofKey (PI)), .float .f64 (ofKey (-PI)), .int .i64 (0)]) (by simp [results, Try.results12, go_sem, F2_0, F2_1, F2_2]) rfl ⟨rfl, ?_⟩
  exact B

set_option maxHeartbeats 4000000 in
theorem do_one_e (o : Int) (a b a2 b2 : Nat) (d d2 : Int) (A Bh C D m n : Int) (rA : Rg A) (rB : Rg Bh) (rC : Rg C) (rD : Rg D) (X Y l : Int) (rX : Rg X) (rY : Rg Y) (he : ¬ m = 0)
    (hNA : ∀ w, Calls Try.prog 20 #[.int .i64 o] w fun e w' => e = .returned (.int .i64 1) ∧ Below w.heap.size w w')
    (hOA : ∀ w, Calls Try.prog 11 #[.agg #[.float .f64 (a), .float .f64 (b)], .int .i64 d] w fun e w' => e = .returned (.agg #[.float .f64 (ofKey (A)), .float .f64 (ofKey (Bh)), .int .i64 (m)]) ∧ Below w.heap.size w w')
    (hOB : ∀ w, Calls Try.prog 11 #[.agg #[.float .f64 (a2), .float .f64 (b2)], .int .i64 d2] w fun e w' => e = .returned (.agg #[.float .f64 (ofKey (C)), .float .f64 (ofKey (D)), .int .i64 (n)]) ∧ Below w.heap.size w w')
    (hAP : ∀ w, Calls Try.prog 13 #[.int .i64 o, .agg #[.float .f64 (ofKey (A)), .float .f64 (ofKey (Bh))], .agg #[.float .f64 (ofKey (A)), .float .f64 (ofKey (Bh))]] w fun e w' => e = .returned (.agg #[.float .f64 (ofKey (X)), .float .f64 (ofKey (Y))]) ∧ Below w.heap.size w w')
    (hNO : ∀ w, Calls Try.prog 16 #[.agg #[.float .f64 (ofKey (A)), .float .f64 (ofKey (Bh))]] w fun e w' => e = .returned (.bool true) ∧ Below w.heap.size w w') (w : World) :
    Calls Try.prog 12 #[.int .i64 o, .agg #[.float .f64 (a), .float .f64 (b), .int .i64 (d)], .agg #[.float .f64 (a2), .float .f64 (b2), .int .i64 (d2)]] w fun e w' => e = .returned (.agg #[.float .f64 (ofKey (X)), .float .f64 (ofKey (Y)), .int .i64 (min 1 m)]) ∧ Below w.heap.size w w' := by
  have NA := Lib.hid hNA
  have OA := Lib.hid hOA
  have OB := Lib.hid hOB
  have AP := Lib.hid hAP
  have NO := Lib.hid hNO
  clear hNA hOA hOB hAP hNO
  have bm : (m == 0) = false := by simpa using he
  go_enter Try.func12, Try.ntmps12
  go_wp2_with fail
  refine (NA.out _).mono ?_
  rintro e w1 ⟨rfl, hbw1⟩
  obtain ⟨L0, hL0⟩ : ∃ L0, L0 = (World.alloc (World.alloc (World.alloc w (.cells #[.float .f64 (a), .float .f64 (b), .int .i64 (d)] 31)) (.cells #[.float .f64 (a2), .float .f64 (b2), .int .i64 (d2)] 31)) (.cells #[.float .f64 (0), .float .f64 (0), .int .i64 (0)] 31)) := ⟨_, rfl⟩
  have A0_0 : At L0 (w.heap.size) 0 (.float .f64 (a)) := by rw [hL0]; exact ⟨by simp [go_sem], by simp [go_sem]⟩
  have A0_1 : At L0 (w.heap.size) 1 (.float .f64 (b)) := by rw [hL0]; exact ⟨by simp [go_sem], by simp [go_sem]⟩
  have A0_2 : At L0 (w.heap.size) 2 (.int .i64 (d)) := by rw [hL0]; exact ⟨by simp [go_sem], by simp [go_sem]⟩
  have A1_0 : At L0 (w.heap.size + 1) 0 (.float .f64 (a2)) := by rw [hL0]; exact ⟨by simp [go_sem], by simp [go_sem]⟩
  have A1_1 : At L0 (w.heap.size + 1) 1 (.float .f64 (b2)) := by rw [hL0]; exact ⟨by simp [go_sem], by simp [go_sem]⟩
  have A1_2 : At L0 (w.heap.size + 1) 2 (.int .i64 (d2)) := by rw [hL0]; exact ⟨by simp [go_sem], by simp [go_sem]⟩
  have A2_0 : At L0 (w.heap.size + 1 + 1) 0 (.float .f64 (0)) := by rw [hL0]; exact ⟨by simp [go_sem], by simp [go_sem]⟩
  have A2_1 : At L0 (w.heap.size + 1 + 1) 1 (.float .f64 (0)) := by rw [hL0]; exact ⟨by simp [go_sem], by simp [go_sem]⟩
  have A2_2 : At L0 (w.heap.size + 1 + 1) 2 (.int .i64 (0)) := by rw [hL0]; exact ⟨by simp [go_sem], by simp [go_sem]⟩
  subst hL0
  replace A0_0 := At.below (A0_0) hbw1
  replace A0_1 := At.below (A0_1) hbw1
  replace A0_2 := At.below (A0_2) hbw1
  replace A1_0 := At.below (A1_0) hbw1
  replace A1_1 := At.below (A1_1) hbw1
  replace A1_2 := At.below (A1_2) hbw1
  replace A2_0 := At.below (A2_0) hbw1
  replace A2_1 := At.below (A2_1) hbw1
  replace A2_2 := At.below (A2_2) hbw1
  have B := below_alloc (below_alloc (below_alloc (hbw1)))
  clear hbw1
  have F0_0 := A0_0.1; have G0_0 := A0_0.2
  have F0_1 := A0_1.1; have G0_1 := A0_1.2
  have F0_2 := A0_2.1; have G0_2 := A0_2.2
  have F1_0 := A1_0.1; have G1_0 := A1_0.2
  have F1_1 := A1_1.1; have G1_1 := A1_1.2
  have F1_2 := A1_2.1; have G1_2 := A1_2.2
  have F2_0 := A2_0.1; have G2_0 := A2_0.2
  have F2_1 := A2_1.1; have G2_1 := A2_1.2
  have F2_2 := A2_2.1; have G2_2 := A2_2.2
  have Z0 := A0_0.lt
  have Z1 := A1_0.lt
  have Z2 := A2_0.lt
  go_wp2_with fail
  have k0_0 := cell_regrown A0_0.1
  have k0_1 := cell_regrown A0_1.1
  have k0_2 := cell_regrown A0_2.1
  have k1_0 := cell_regrown A1_0.1
  have k1_1 := cell_regrown A1_1.1
  have k1_2 := cell_regrown A1_2.1
  have k2_0 := cell_regrown A2_0.1
  have k2_1 := cell_regrown A2_1.1
  have k2_2 := cell_regrown A2_2.1
  refine wp_region_below_tail 10 (by kernel_rfl) (by kernel_rfl) ?_
  simp only [List.take_succ_cons, List.take_zero, List.drop_succ_cons, List.drop_zero]
  repeat (go_big_quiet_step ((first | (with_reducible exact Calls.regrown_of (OA.out _)) | (with_reducible exact Calls.regrown_of (OB.out _)))))
  refine wpQuiet_nil (fun w2 hbw2 => ?_)
  clear k0_0 k0_1 k0_2 k1_0 k1_1 k1_2 k2_0 k2_1 k2_2
  clear F0_0 G0_0 F0_1 G0_1 F0_2 G0_2 F1_0 G1_0 F1_1 G1_1 F1_2 G1_2 F2_0 G2_0 F2_1 G2_1 F2_2 G2_2 Z0 Z1 Z2
  replace A0_0 := At.below (A0_0) hbw2
  replace A0_1 := At.below (A0_1) hbw2
  replace A0_2 := At.below (A0_2) hbw2
  replace A1_0 := At.below (A1_0) hbw2
  replace A1_1 := At.below (A1_1) hbw2
  replace A1_2 := At.below (A1_2) hbw2
  replace A2_0 := At.below (A2_0) hbw2
  replace A2_1 := At.below (A2_1) hbw2
  replace A2_2 := At.below (A2_2) hbw2
  replace B := below_step B B.size (hbw2)
  clear hbw2
  have F0_0 := A0_0.1; have G0_0 := A0_0.2
  have F0_1 := A0_1.1; have G0_1 := A0_1.2
  have F0_2 := A0_2.1; have G0_2 := A0_2.2
  have F1_0 := A1_0.1; have G1_0 := A1_0.2
  have F1_1 := A1_1.1; have G1_1 := A1_1.2
  have F1_2 := A1_2.1; have G1_2 := A1_2.2
  have F2_0 := A2_0.1; have G2_0 := A2_0.2
  have F2_1 := A2_1.1; have G2_1 := A2_1.2
  have F2_2 := A2_2.1; have G2_2 := A2_2.2
  have Z0 := A0_0.lt
  have Z1 := A1_0.lt
  have Z2 := A2_0.lt
  iterate 8 go_step
  clear F0_0 G0_0 F0_1 G0_1 F0_2 G0_2 F1_0 G1_0 F1_1 G1_1 F1_2 G1_2 F2_0 G2_0 F2_1 G2_1 F2_2 G2_2 Z0 Z1 Z2
  replace A0_0 := At.set_same A0_0 (.float .f64 (ofKey (A)))
  replace A0_1 := At.set_off (f' := 0) A0_1 (by decide) (.float .f64 (ofKey (A)))
  replace A0_2 := At.set_off (f' := 0) A0_2 (by decide) (.float .f64 (ofKey (A)))
  replace A1_0 := At.set_blk (b' := w.heap.size) (f' := 0) A1_0 (by first | omega | (have := B.size; omega)) (.float .f64 (ofKey (A)))
  replace A1_1 := At.set_blk (b' := w.heap.size) (f' := 0) A1_1 (by first | omega | (have := B.size; omega)) (.float .f64 (ofKey (A)))
  replace A1_2 := At.set_blk (b' := w.heap.size) (f' := 0) A1_2 (by first | omega | (have := B.size; omega)) (.float .f64 (ofKey (A)))
  replace A2_0 := At.set_blk (b' := w.heap.size) (f' := 0) A2_0 (by first | omega | (have := B.size; omega)) (.float .f64 (ofKey (A)))
  replace A2_1 := At.set_blk (b' := w.heap.size) (f' := 0) A2_1 (by first | omega | (have := B.size; omega)) (.float .f64 (ofKey (A)))
  replace A2_2 := At.set_blk (b' := w.heap.size) (f' := 0) A2_2 (by first | omega | (have := B.size; omega)) (.float .f64 (ofKey (A)))
  replace A0_0 := At.set_off (f' := 1) A0_0 (by decide) (.float .f64 (ofKey (Bh)))
  replace A0_1 := At.set_same A0_1 (.float .f64 (ofKey (Bh)))
  replace A0_2 := At.set_off (f' := 1) A0_2 (by decide) (.float .f64 (ofKey (Bh)))
  replace A1_0 := At.set_blk (b' := w.heap.size) (f' := 1) A1_0 (by first | omega | (have := B.size; omega)) (.float .f64 (ofKey (Bh)))
  replace A1_1 := At.set_blk (b' := w.heap.size) (f' := 1) A1_1 (by first | omega | (have := B.size; omega)) (.float .f64 (ofKey (Bh)))
  replace A1_2 := At.set_blk (b' := w.heap.size) (f' := 1) A1_2 (by first | omega | (have := B.size; omega)) (.float .f64 (ofKey (Bh)))
  replace A2_0 := At.set_blk (b' := w.heap.size) (f' := 1) A2_0 (by first | omega | (have := B.size; omega)) (.float .f64 (ofKey (Bh)))
  replace A2_1 := At.set_blk (b' := w.heap.size) (f' := 1) A2_1 (by first | omega | (have := B.size; omega)) (.float .f64 (ofKey (Bh)))
  replace A2_2 := At.set_blk (b' := w.heap.size) (f' := 1) A2_2 (by first | omega | (have := B.size; omega)) (.float .f64 (ofKey (Bh)))
  replace A0_0 := At.set_off (f' := 2) A0_0 (by decide) (.int .i64 (m))
  replace A0_1 := At.set_off (f' := 2) A0_1 (by decide) (.int .i64 (m))
  replace A0_2 := At.set_same A0_2 (.int .i64 (m))
  replace A1_0 := At.set_blk (b' := w.heap.size) (f' := 2) A1_0 (by first | omega | (have := B.size; omega)) (.int .i64 (m))
  replace A1_1 := At.set_blk (b' := w.heap.size) (f' := 2) A1_1 (by first | omega | (have := B.size; omega)) (.int .i64 (m))
  replace A1_2 := At.set_blk (b' := w.heap.size) (f' := 2) A1_2 (by first | omega | (have := B.size; omega)) (.int .i64 (m))
  replace A2_0 := At.set_blk (b' := w.heap.size) (f' := 2) A2_0 (by first | omega | (have := B.size; omega)) (.int .i64 (m))
  replace A2_1 := At.set_blk (b' := w.heap.size) (f' := 2) A2_1 (by first | omega | (have := B.size; omega)) (.int .i64 (m))
  replace A2_2 := At.set_blk (b' := w.heap.size) (f' := 2) A2_2 (by first | omega | (have := B.size; omega)) (.int .i64 (m))
  replace A0_0 := At.set_blk (b' := w.heap.size + 1) (f' := 0) A0_0 (by first | omega | (have := B.size; omega)) (.float .f64 (ofKey (C)))
  replace A0_1 := At.set_blk (b' := w.heap.size + 1) (f' := 0) A0_1 (by first | omega | (have := B.size; omega)) (.float .f64 (ofKey (C)))
  replace A0_2 := At.set_blk (b' := w.heap.size + 1) (f' := 0) A0_2 (by first | omega | (have := B.size; omega)) (.float .f64 (ofKey (C)))
  replace A1_0 := At.set_same A1_0 (.float .f64 (ofKey (C)))
  replace A1_1 := At.set_off (f' := 0) A1_1 (by decide) (.float .f64 (ofKey (C)))
  replace A1_2 := At.set_off (f' := 0) A1_2 (by decide) (.float .f64 (ofKey (C)))
  replace A2_0 := At.set_blk (b' := w.heap.size + 1) (f' := 0) A2_0 (by first | omega | (have := B.size; omega)) (.float .f64 (ofKey (C)))
  replace A2_1 := At.set_blk (b' := w.heap.size + 1) (f' := 0) A2_1 (by first | omega | (have := B.size; omega)) (.float .f64 (ofKey (C)))
  replace A2_2 := At.set_blk (b' := w.heap.size + 1) (f' := 0) A2_2 (by first | omega | (have := B.size; omega)) (.float .f64 (ofKey (C)))
  replace A0_0 := At.set_blk (b' := w.heap.size + 1) (f' := 1) A0_0 (by first | omega | (have := B.size; omega)) (.float .f64 (ofKey (D)))
  replace A0_1 := At.set_blk (b' := w.heap.size + 1) (f' := 1) A0_1 (by first | omega | (have := B.size; omega)) (.float .f64 (ofKey (D)))
  replace A0_2 := At.set_blk (b' := w.heap.size + 1) (f' := 1) A0_2 (by first | omega | (have := B.size; omega)) (.float .f64 (ofKey (D)))
  replace A1_0 := At.set_off (f' := 1) A1_0 (by decide) (.float .f64 (ofKey (D)))
  replace A1_1 := At.set_same A1_1 (.float .f64 (ofKey (D)))
  replace A1_2 := At.set_off (f' := 1) A1_2 (by decide) (.float .f64 (ofKey (D)))
  replace A2_0 := At.set_blk (b' := w.heap.size + 1) (f' := 1) A2_0 (by first | omega | (have := B.size; omega)) (.float .f64 (ofKey (D)))
  replace A2_1 := At.set_blk (b' := w.heap.size + 1) (f' := 1) A2_1 (by first | omega | (have := B.size; omega)) (.float .f64 (ofKey (D)))
  replace A2_2 := At.set_blk (b' := w.heap.size + 1) (f' := 1) A2_2 (by first | omega | (have := B.size; omega)) (.float .f64 (ofKey (D)))
  replace A0_0 := At.set_blk (b' := w.heap.size + 1) (f' := 2) A0_0 (by first | omega | (have := B.size; omega)) (.int .i64 (n))
  replace A0_1 := At.set_blk (b' := w.heap.size + 1) (f' := 2) A0_1 (by first | omega | (have := B.size; omega)) (.int .i64 (n))
  replace A0_2 := At.set_blk (b' := w.heap.size + 1) (f' := 2) A0_2 (by first | omega | (have := B.size; omega)) (.int .i64 (n))
  replace A1_0 := At.set_off (f' := 2) A1_0 (by decide) (.int .i64 (n))
  replace A1_1 := At.set_off (f' := 2) A1_1 (by decide) (.int .i64 (n))
  replace A1_2 := At.set_same A1_2 (.int .i64 (n))
  replace A2_0 := At.set_blk (b' := w.heap.size + 1) (f' := 2) A2_0 (by first | omega | (have := B.size; omega)) (.int .i64 (n))
  replace A2_1 := At.set_blk (b' := w.heap.size + 1) (f' := 2) A2_1 (by first | omega | (have := B.size; omega)) (.int .i64 (n))
  replace A2_2 := At.set_blk (b' := w.heap.size + 1) (f' := 2) A2_2 (by first | omega | (have := B.size; omega)) (.int .i64 (n))
  have B' : Below w.heap.size w (World.setCell (World.setCell (World.setCell (World.setCell (World.setCell (World.setCell w2 ⟨w.heap.size, 0, none⟩ (.float .f64 (ofKey (A)))) ⟨w.heap.size, 1, none⟩ (.float .f64 (ofKey (Bh)))) ⟨w.heap.size, 2, none⟩ (.int .i64 (m))) ⟨w.heap.size + 1, 0, none⟩ (.float .f64 (ofKey (C)))) ⟨w.heap.size + 1, 1, none⟩ (.float .f64 (ofKey (D)))) ⟨w.heap.size + 1, 2, none⟩ (.int .i64 (n))) := (Below.setCell (Below.setCell (Below.setCell (Below.setCell (Below.setCell (Below.setCell B (p := ⟨w.heap.size, 0, none⟩) (by first | (show w.heap.size ≤ w.heap.size; omega) | (have := B.size; show w.heap.size ≤ w.heap.size; omega)) (.float .f64 (ofKey (A)))) (p := ⟨w.heap.size, 1, none⟩) (by first | (show w.heap.size ≤ w.heap.size; omega) | (have := B.size; show w.heap.size ≤ w.heap.size; omega)) (.float .f64 (ofKey (Bh)))) (p := ⟨w.heap.size, 2, none⟩) (by first | (show w.heap.size ≤ w.heap.size; omega) | (have := B.size; show w.heap.size ≤ w.heap.size; omega)) (.int .i64 (m))) (p := ⟨w.heap.size + 1, 0, none⟩) (by first | (show w.heap.size ≤ w.heap.size + 1; omega) | (have := B.size; show w.heap.size ≤ w.heap.size + 1; omega)) (.float .f64 (ofKey (C)))) (p := ⟨w.heap.size + 1, 1, none⟩) (by first | (show w.heap.size ≤ w.heap.size + 1; omega) | (have := B.size; show w.heap.size ≤ w.heap.size + 1; omega)) (.float .f64 (ofKey (D)))) (p := ⟨w.heap.size + 1, 2, none⟩) (by first | (show w.heap.size ≤ w.heap.size + 1; omega) | (have := B.size; show w.heap.size ≤ w.heap.size + 1; omega)) (.int .i64 (n)))
  clear B
  obtain ⟨w3, hw3⟩ : ∃ w3, w3 = (World.setCell (World.setCell (World.setCell (World.setCell (World.setCell (World.setCell w2 ⟨w.heap.size, 0, none⟩ (.float .f64 (ofKey (A)))) ⟨w.heap.size, 1, none⟩ (.float .f64 (ofKey (Bh)))) ⟨w.heap.size, 2, none⟩ (.int .i64 (m))) ⟨w.heap.size + 1, 0, none⟩ (.float .f64 (ofKey (C)))) ⟨w.heap.size + 1, 1, none⟩ (.float .f64 (ofKey (D)))) ⟨w.heap.size + 1, 2, none⟩ (.int .i64 (n))) := ⟨_, rfl⟩
  rw [← hw3]
  replace A0_0 := At.of A0_0 hw3
  replace A0_1 := At.of A0_1 hw3
  replace A0_2 := At.of A0_2 hw3
  replace A1_0 := At.of A1_0 hw3
  replace A1_1 := At.of A1_1 hw3
  replace A1_2 := At.of A1_2 hw3
  replace A2_0 := At.of A2_0 hw3
  replace A2_1 := At.of A2_1 hw3
  replace A2_2 := At.of A2_2 hw3
  have B := below_of B' hw3
  clear B' hw3
  have F0_0 := A0_0.1; have G0_0 := A0_0.2
  have F0_1 := A0_1.1; have G0_1 := A0_1.2
  have F0_2 := A0_2.1; have G0_2 := A0_2.2
  have F1_0 := A1_0.1; have G1_0 := A1_0.2
  have F1_1 := A1_1.1; have G1_1 := A1_1.2
  have F1_2 := A1_2.1; have G1_2 := A1_2.2
  have F2_0 := A2_0.1; have G2_0 := A2_0.2
  have F2_1 := A2_1.1; have G2_1 := A2_1.2
  have F2_2 := A2_2.1; have G2_2 := A2_2.2
  have Z0 := A0_0.lt
  have Z1 := A1_0.lt
  have Z2 := A2_0.lt
  go_wp2_with fail
  clear F0_0 G0_0 F0_1 G0_1 F0_2 G0_2 F1_0 G1_0 F1_1 G1_1 F1_2 G1_2 F2_0 G2_0 F2_1 G2_1 F2_2 G2_2 Z0 Z1 Z2
  replace A0_0 := At.set_blk (b' := w.heap.size + 1) (f' := 0) A0_0 (by first | omega | (have := B.size; omega)) (.float .f64 (ofKey (A)))
  replace A0_1 := At.set_blk (b' := w.heap.size + 1) (f' := 0) A0_1 (by first | omega | (have := B.size; omega)) (.float .f64 (ofKey (A)))
  replace A0_2 := At.set_blk (b' := w.heap.size + 1) (f' := 0) A0_2 (by first | omega | (have := B.size; omega)) (.float .f64 (ofKey (A)))
  replace A1_0 := At.set_same A1_0 (.float .f64 (ofKey (A)))
  replace A1_1 := At.set_off (f' := 0) A1_1 (by decide) (.float .f64 (ofKey (A)))
  replace A1_2 := At.set_off (f' := 0) A1_2 (by decide) (.float .f64 (ofKey (A)))
  replace A2_0 := At.set_blk (b' := w.heap.size + 1) (f' := 0) A2_0 (by first | omega | (have := B.size; omega)) (.float .f64 (ofKey (A)))
  replace A2_1 := At.set_blk (b' := w.heap.size + 1) (f' := 0) A2_1 (by first | omega | (have := B.size; omega)) (.float .f64 (ofKey (A)))
  replace A2_2 := At.set_blk (b' := w.heap.size + 1) (f' := 0) A2_2 (by first | omega | (have := B.size; omega)) (.float .f64 (ofKey (A)))
  replace A0_0 := At.set_blk (b' := w.heap.size + 1) (f' := 1) A0_0 (by first | omega | (have := B.size; omega)) (.float .f64 (ofKey (Bh)))
  replace A0_1 := At.set_blk (b' := w.heap.size + 1) (f' := 1) A0_1 (by first | omega | (have := B.size; omega)) (.float .f64 (ofKey (Bh)))
  replace A0_2 := At.set_blk (b' := w.heap.size + 1) (f' := 1) A0_2 (by first | omega | (have := B.size; omega)) (.float .f64 (ofKey (Bh)))
  replace A1_0 := At.set_off (f' := 1) A1_0 (by decide) (.float .f64 (ofKey (Bh)))
  replace A1_1 := At.set_same A1_1 (.float .f64 (ofKey (Bh)))
  replace A1_2 := At.set_off (f' := 1) A1_2 (by decide) (.float .f64 (ofKey (Bh)))
  replace A2_0 := At.set_blk (b' := w.heap.size + 1) (f' := 1) A2_0 (by first | omega | (have := B.size; omega)) (.float .f64 (ofKey (Bh)))
  replace A2_1 := At.set_blk (b' := w.heap.size + 1) (f' := 1) A2_1 (by first | omega | (have := B.size; omega)) (.float .f64 (ofKey (Bh)))
  replace A2_2 := At.set_blk (b' := w.heap.size + 1) (f' := 1) A2_2 (by first | omega | (have := B.size; omega)) (.float .f64 (ofKey (Bh)))
  replace A0_0 := At.set_blk (b' := w.heap.size + 1) (f' := 2) A0_0 (by first | omega | (have := B.size; omega)) (.int .i64 (m))
  replace A0_1 := At.set_blk (b' := w.heap.size + 1) (f' := 2) A0_1 (by first | omega | (have := B.size; omega)) (.int .i64 (m))
  replace A0_2 := At.set_blk (b' := w.heap.size + 1) (f' := 2) A0_2 (by first | omega | (have := B.size; omega)) (.int .i64 (m))
  replace A1_0 := At.set_off (f' := 2) A1_0 (by decide) (.int .i64 (m))
  replace A1_1 := At.set_off (f' := 2) A1_1 (by decide) (.int .i64 (m))
  replace A1_2 := At.set_same A1_2 (.int .i64 (m))
  replace A2_0 := At.set_blk (b' := w.heap.size + 1) (f' := 2) A2_0 (by first | omega | (have := B.size; omega)) (.int .i64 (m))
  replace A2_1 := At.set_blk (b' := w.heap.size + 1) (f' := 2) A2_1 (by first | omega | (have := B.size; omega)) (.int .i64 (m))
  replace A2_2 := At.set_blk (b' := w.heap.size + 1) (f' := 2) A2_2 (by first | omega | (have := B.size; omega)) (.int .i64 (m))
  have B' : Below w.heap.size w (World.setCell (World.setCell (World.setCell w3 ⟨w.heap.size + 1, 0, none⟩ (.float .f64 (ofKey (A)))) ⟨w.heap.size + 1, 1, none⟩ (.float .f64 (ofKey (Bh)))) ⟨w.heap.size + 1, 2, none⟩ (.int .i64 (m))) := (Below.setCell (Below.setCell (Below.setCell B (p := ⟨w.heap.size + 1, 0, none⟩) (by first | (show w.heap.size ≤ w.heap.size + 1; omega) | (have := B.size; show w.heap.size ≤ w.heap.size + 1; omega)) (.float .f64 (ofKey (A)))) (p := ⟨w.heap.size + 1, 1, none⟩) (by first | (show w.heap.size ≤ w.heap.size + 1; omega) | (have := B.size; show w.heap.size ≤ w.heap.size + 1; omega)) (.float .f64 (ofKey (Bh)))) (p := ⟨w.heap.size + 1, 2, none⟩) (by first | (show w.heap.size ≤ w.heap.size + 1; omega) | (have := B.size; show w.heap.size ≤ w.heap.size + 1; omega)) (.int .i64 (m)))
  clear B
  obtain ⟨w4, hw4⟩ : ∃ w4, w4 = (World.setCell (World.setCell (World.setCell w3 ⟨w.heap.size + 1, 0, none⟩ (.float .f64 (ofKey (A)))) ⟨w.heap.size + 1, 1, none⟩ (.float .f64 (ofKey (Bh)))) ⟨w.heap.size + 1, 2, none⟩ (.int .i64 (m))) := ⟨_, rfl⟩
  rw [← hw4]
  replace A0_0 := At.of A0_0 hw4
  replace A0_1 := At.of A0_1 hw4
  replace A0_2 := At.of A0_2 hw4
  replace A1_0 := At.of A1_0 hw4
  replace A1_1 := At.of A1_1 hw4
  replace A1_2 := At.of A1_2 hw4
  replace A2_0 := At.of A2_0 hw4
  replace A2_1 := At.of A2_1 hw4
  replace A2_2 := At.of A2_2 hw4
  have B := below_of B' hw4
  clear B' hw4
  have F0_0 := A0_0.1; have G0_0 := A0_0.2
  have F0_1 := A0_1.1; have G0_1 := A0_1.2
  have F0_2 := A0_2.1; have G0_2 := A0_2.2
  have F1_0 := A1_0.1; have G1_0 := A1_0.2
  have F1_1 := A1_1.1; have G1_1 := A1_1.2
  have F1_2 := A1_2.1; have G1_2 := A1_2.2
  have F2_0 := A2_0.1; have G2_0 := A2_0.2
  have F2_1 := A2_1.1; have G2_1 := A2_1.2
  have F2_2 := A2_2.1; have G2_2 := A2_2.2
  have Z0 := A0_0.lt
  have Z1 := A1_0.lt
  have Z2 := A2_0.lt
  refine (AP.out _).mono ?_
  rintro e w5 ⟨rfl, hbw5⟩
  clear F0_0 G0_0 F0_1 G0_1 F0_2 G0_2 F1_0 G1_0 F1_1 G1_1 F1_2 G1_2 F2_0 G2_0 F2_1 G2_1 F2_2 G2_2 Z0 Z1 Z2
  replace A0_0 := At.below (A0_0) hbw5
  replace A0_1 := At.below (A0_1) hbw5
  replace A0_2 := At.below (A0_2) hbw5
  replace A1_0 := At.below (A1_0) hbw5
  replace A1_1 := At.below (A1_1) hbw5
  replace A1_2 := At.below (A1_2) hbw5
  replace A2_0 := At.below (A2_0) hbw5
  replace A2_1 := At.below (A2_1) hbw5
  replace A2_2 := At.below (A2_2) hbw5
  replace B := below_step B B.size (hbw5)
  clear hbw5
  have F0_0 := A0_0.1; have G0_0 := A0_0.2
  have F0_1 := A0_1.1; have G0_1 := A0_1.2
  have F0_2 := A0_2.1; have G0_2 := A0_2.2
  have F1_0 := A1_0.1; have G1_0 := A1_0.2
  have F1_1 := A1_1.1; have G1_1 := A1_1.2
  have F1_2 := A1_2.1; have G1_2 := A1_2.2
  have F2_0 := A2_0.1; have G2_0 := A2_0.2
  have F2_1 := A2_1.1; have G2_1 := A2_1.2
  have F2_2 := A2_2.1; have G2_2 := A2_2.2
  have Z0 := A0_0.lt
  have Z1 := A1_0.lt
  have Z2 := A2_0.lt
  go_wp2_with fail
  refine (NO.out _).mono ?_
  rintro e w6 ⟨rfl, hbw6⟩
  clear F0_0 G0_0 F0_1 G0_1 F0_2 G0_2 F1_0 G1_0 F1_1 G1_1 F1_2 G1_2 F2_0 G2_0 F2_1 G2_1 F2_2 G2_2 Z0 Z1 Z2
  have n1 : w.heap.size + 1 + 1 < w5.heap.size := At.lt A2_2
  replace A0_0 := At.below (At.alloc (A0_0)) hbw6
  replace A0_1 := At.below (At.alloc (A0_1)) hbw6
  replace A0_2 := At.below (At.alloc (A0_2)) hbw6
  replace A1_0 := At.below (At.alloc (A1_0)) hbw6
  replace A1_1 := At.below (At.alloc (A1_1)) hbw6
  replace A1_2 := At.below (At.alloc (A1_2)) hbw6
  replace A2_0 := At.below (At.alloc (A2_0)) hbw6
  replace A2_1 := At.below (At.alloc (A2_1)) hbw6
  replace A2_2 := At.below (At.alloc (A2_2)) hbw6
  have A3_0 : At (World.alloc w5 (.cells #[.float .f64 (ofKey (X)), .float .f64 (ofKey (Y))] 27)) (w5.heap.size) 0 (.float .f64 (ofKey (X))) := ⟨by simp [go_sem], by simp [go_sem]⟩
  replace A3_0 := At.below A3_0 hbw6
  have A3_1 : At (World.alloc w5 (.cells #[.float .f64 (ofKey (X)), .float .f64 (ofKey (Y))] 27)) (w5.heap.size) 1 (.float .f64 (ofKey (Y))) := ⟨by simp [go_sem], by simp [go_sem]⟩
  replace A3_1 := At.below A3_1 hbw6
  replace B := below_step B B.size (below_alloc (hbw6))
  clear hbw6
  have F0_0 := A0_0.1; have G0_0 := A0_0.2
  have F0_1 := A0_1.1; have G0_1 := A0_1.2
  have F0_2 := A0_2.1; have G0_2 := A0_2.2
  have F1_0 := A1_0.1; have G1_0 := A1_0.2
  have F1_1 := A1_1.1; have G1_1 := A1_1.2
  have F1_2 := A1_2.1; have G1_2 := A1_2.2
  have F2_0 := A2_0.1; have G2_0 := A2_0.2
  have F2_1 := A2_1.1; have G2_1 := A2_1.2
  have F2_2 := A2_2.1; have G2_2 := A2_2.2
  have F3_0 := A3_0.1; have G3_0 := A3_0.2
  have F3_1 := A3_1.1; have G3_1 := A3_1.2
  have Z0 := A0_0.lt
  have Z1 := A1_0.lt
  have Z2 := A2_0.lt
  have Z3 := A3_0.lt
  go_wp2_with fail
  clear F0_0 G0_0 F0_1 G0_1 F0_2 G0_2 F1_0 G1_0 F1_1 G1_1 F1_2 G1_2 F2_0 G2_0 F2_1 G2_1 F2_2 G2_2 F3_0 G3_0 F3_1 G3_1 Z0 Z1 Z2 Z3
  replace A0_0 := At.set_blk (b' := w.heap.size + 1 + 1) (f' := 0) A0_0 (by first | omega | (have := B.size; omega)) (.float .f64 (ofKey (X)))
  replace A0_1 := At.set_blk (b' := w.heap.size + 1 + 1) (f' := 0) A0_1 (by first | omega | (have := B.size; omega)) (.float .f64 (ofKey (X)))
  replace A0_2 := At.set_blk (b' := w.heap.size + 1 + 1) (f' := 0) A0_2 (by first | omega | (have := B.size; omega)) (.float .f64 (ofKey (X)))
  replace A1_0 := At.set_blk (b' := w.heap.size + 1 + 1) (f' := 0) A1_0 (by first | omega | (have := B.size; omega)) (.float .f64 (ofKey (X)))
  replace A1_1 := At.set_blk (b' := w.heap.size + 1 + 1) (f' := 0) A1_1 (by first | omega | (have := B.size; omega)) (.float .f64 (ofKey (X)))
  replace A1_2 := At.set_blk (b' := w.heap.size + 1 + 1) (f' := 0) A1_2 (by first | omega | (have := B.size; omega)) (.float .f64 (ofKey (X)))
  replace A2_0 := At.set_same A2_0 (.float .f64 (ofKey (X)))
  replace A2_1 := At.set_off (f' := 0) A2_1 (by decide) (.float .f64 (ofKey (X)))
  replace A2_2 := At.set_off (f' := 0) A2_2 (by decide) (.float .f64 (ofKey (X)))
  replace A3_0 := At.set_blk (b' := w.heap.size + 1 + 1) (f' := 0) A3_0 (by first | omega | (have := B.size; omega)) (.float .f64 (ofKey (X)))
  replace A3_1 := At.set_blk (b' := w.heap.size + 1 + 1) (f' := 0) A3_1 (by first | omega | (have := B.size; omega)) (.float .f64 (ofKey (X)))
  replace A0_0 := At.set_blk (b' := w.heap.size + 1 + 1) (f' := 1) A0_0 (by first | omega | (have := B.size; omega)) (.float .f64 (ofKey (Y)))
  replace A0_1 := At.set_blk (b' := w.heap.size + 1 + 1) (f' := 1) A0_1 (by first | omega | (have := B.size; omega)) (.float .f64 (ofKey (Y)))
  replace A0_2 := At.set_blk (b' := w.heap.size + 1 + 1) (f' := 1) A0_2 (by first | omega | (have := B.size; omega)) (.float .f64 (ofKey (Y)))
  replace A1_0 := At.set_blk (b' := w.heap.size + 1 + 1) (f' := 1) A1_0 (by first | omega | (have := B.size; omega)) (.float .f64 (ofKey (Y)))
  replace A1_1 := At.set_blk (b' := w.heap.size + 1 + 1) (f' := 1) A1_1 (by first | omega | (have := B.size; omega)) (.float .f64 (ofKey (Y)))
  replace A1_2 := At.set_blk (b' := w.heap.size + 1 + 1) (f' := 1) A1_2 (by first | omega | (have := B.size; omega)) (.float .f64 (ofKey (Y)))
  replace A2_0 := At.set_off (f' := 1) A2_0 (by decide) (.float .f64 (ofKey (Y)))
  replace A2_1 := At.set_same A2_1 (.float .f64 (ofKey (Y)))
  replace A2_2 := At.set_off (f' := 1) A2_2 (by decide) (.float .f64 (ofKey (Y)))
  replace A3_0 := At.set_blk (b' := w.heap.size + 1 + 1) (f' := 1) A3_0 (by first | omega | (have := B.size; omega)) (.float .f64 (ofKey (Y)))
  replace A3_1 := At.set_blk (b' := w.heap.size + 1 + 1) (f' := 1) A3_1 (by first | omega | (have := B.size; omega)) (.float .f64 (ofKey (Y)))
  replace A0_0 := At.set_blk (b' := w.heap.size + 1 + 1) (f' := 2) A0_0 (by first | omega | (have := B.size; omega)) (.int .i64 (min 1 m))
  replace A0_1 := At.set_blk (b' := w.heap.size + 1 + 1) (f' := 2) A0_1 (by first | omega | (have := B.size; omega)) (.int .i64 (min 1 m))
  replace A0_2 := At.set_blk (b' := w.heap.size + 1 + 1) (f' := 2) A0_2 (by first | omega | (have := B.size; omega)) (.int .i64 (min 1 m))
  replace A1_0 := At.set_blk (b' := w.heap.size + 1 + 1) (f' := 2) A1_0 (by first | omega | (have := B.size; omega)) (.int .i64 (min 1 m))
  replace A1_1 := At.set_blk (b' := w.heap.size + 1 + 1) (f' := 2) A1_1 (by first | omega | (have := B.size; omega)) (.int .i64 (min 1 m))
  replace A1_2 := At.set_blk (b' := w.heap.size + 1 + 1) (f' := 2) A1_2 (by first | omega | (have := B.size; omega)) (.int .i64 (min 1 m))
  replace A2_0 := At.set_off (f' := 2) A2_0 (by decide) (.int .i64 (min 1 m))
  replace A2_1 := At.set_off (f' := 2) A2_1 (by decide) (.int .i64 (min 1 m))
  replace A2_2 := At.set_same A2_2 (.int .i64 (min 1 m))
  replace A3_0 := At.set_blk (b' := w.heap.size + 1 + 1) (f' := 2) A3_0 (by first | omega | (have := B.size; omega)) (.int .i64 (min 1 m))
  replace A3_1 := At.set_blk (b' := w.heap.size + 1 + 1) (f' := 2) A3_1 (by first | omega | (have := B.size; omega)) (.int .i64 (min 1 m))
  have B' : Below w.heap.size w (World.setCell (World.setCell (World.setCell w6 ⟨w.heap.size + 1 + 1, 0, none⟩ (.float .f64 (ofKey (X)))) ⟨w.heap.size + 1 + 1, 1, none⟩ (.float .f64 (ofKey (Y)))) ⟨w.heap.size + 1 + 1, 2, none⟩ (.int .i64 (min 1 m))) := (Below.setCell (Below.setCell (Below.setCell B (p := ⟨w.heap.size + 1 + 1, 0, none⟩) (by first | (show w.heap.size ≤ w.heap.size + 1 + 1; omega) | (have := B.size; show w.heap.size ≤ w.heap.size + 1 + 1; omega)) (.float .f64 (ofKey (X)))) (p := ⟨w.heap.size + 1 + 1, 1, none⟩) (by first | (show w.heap.size ≤ w.heap.size + 1 + 1; omega) | (have := B.size; show w.heap.size ≤ w.heap.size + 1 + 1; omega)) (.float .f64 (ofKey (Y)))) (p := ⟨w.heap.size + 1 + 1, 2, none⟩) (by first | (show w.heap.size ≤ w.heap.size + 1 + 1; omega) | (have := B.size; show w.heap.size ≤ w.heap.size + 1 + 1; omega)) (.int .i64 (min 1 m)))
  clear B
  obtain ⟨wz, hwz⟩ : ∃ wz, wz = (World.setCell (World.setCell (World.setCell w6 ⟨w.heap.size + 1 + 1, 0, none⟩ (.float .f64 (ofKey (X)))) ⟨w.heap.size + 1 + 1, 1, none⟩ (.float .f64 (ofKey (Y)))) ⟨w.heap.size + 1 + 1, 2, none⟩ (.int .i64 (min 1 m))) := ⟨_, rfl⟩
  rw [← hwz]
  replace A0_0 := At.of A0_0 hwz
  replace A0_1 := At.of A0_1 hwz
  replace A0_2 := At.of A0_2 hwz
  replace A1_0 := At.of A1_0 hwz
  replace A1_1 := At.of A1_1 hwz
  replace A1_2 := At.of A1_2 hwz
  replace A2_0 := At.of A2_0 hwz
  replace A2_1 := At.of A2_1 hwz
  replace A2_2 := At.of A2_2 hwz
  replace A3_0 := At.of A3_0 hwz
  replace A3_1 := At.of A3_1 hwz
  have B := below_of B' hwz
  clear B' hwz
  have F0_0 := A0_0.1; have G0_0 := A0_0.2
  have F0_1 := A0_1.1; have G0_1 := A0_1.2
  have F0_2 := A0_2.1; have G0_2 := A0_2.2
  have F1_0 := A1_0.1; have G1_0 := A1_0.2
  have F1_1 := A1_1.1; have G1_1 := A1_1.2
  have F1_2 := A1_2.1; have G1_2 := A1_2.2
  have F2_0 := A2_0.1; have G2_0 := A2_0.2
  have F2_1 := A2_1.1; have G2_1 := A2_1.2
  have F2_2 := A2_2.1; have G2_2 := A2_2.2
  have F3_0 := A3_0.1; have G3_0 := A3_0.2
  have F3_1 := A3_1.1; have G3_1 := A3_1.2
  have Z0 := A0_0.lt
  have Z1 := A1_0.lt
  have Z2 := A2_0.lt
  have Z3 := A3_0.lt
  refine bodyPost_ret (v := .agg #[.float .f64 (ofKey (X)), .float .f64 (ofKey (Y)), .int .i64 (min 1 m)]) (by simp [results, Try.results12, go_sem, F2_0, F2_1, F2_2]) rfl ⟨rfl, ?_⟩
  exact B

set_option maxHeartbeats 4000000 in
theorem do_one (o : Int) (a b a2 b2 : Nat) (d d2 : Int) (A Bh C D m n : Int) (rA : Rg A) (rB : Rg Bh) (rC : Rg C) (rD : Rg D) (X Y l : Int) (rX : Rg X) (rY : Rg Y) (he : ¬ m = 0)
    (hNA : ∀ w, Calls Try.prog 20 #[.int .i64 o] w fun e w' => e = .returned (.int .i64 1) ∧ Below w.heap.size w w')
    (hOA : ∀ w, Calls Try.prog 11 #[.agg #[.float .f64 (a), .float .f64 (b)], .int .i64 d] w fun e w' => e = .returned (.agg #[.float .f64 (ofKey (A)), .float .f64 (ofKey (Bh)), .int .i64 (m)]) ∧ Below w.heap.size w w')
    (hOB : ∀ w, Calls Try.prog 11 #[.agg #[.float .f64 (a2), .float .f64 (b2)], .int .i64 d2] w fun e w' => e = .returned (.agg #[.float .f64 (ofKey (C)), .float .f64 (ofKey (D)), .int .i64 (n)]) ∧ Below w.heap.size w w')
    (hAP : ∀ w, Calls Try.prog 13 #[.int .i64 o, .agg #[.float .f64 (ofKey (A)), .float .f64 (ofKey (Bh))], .agg #[.float .f64 (ofKey (A)), .float .f64 (ofKey (Bh))]] w fun e w' => e = .returned (.agg #[.float .f64 (ofKey (X)), .float .f64 (ofKey (Y))]) ∧ Below w.heap.size w w')
    (hNO : ∀ w, Calls Try.prog 16 #[.agg #[.float .f64 (ofKey (A)), .float .f64 (ofKey (Bh))]] w fun e w' => e = .returned (.bool false) ∧ Below w.heap.size w w')
    (hLO : ∀ w, Calls Try.prog 21 #[.int .i64 o, .agg #[.float .f64 (ofKey (A)), .float .f64 (ofKey (Bh))], .agg #[.float .f64 (ofKey (A)), .float .f64 (ofKey (Bh))], .agg #[.float .f64 (ofKey (X)), .float .f64 (ofKey (Y))]] w fun e w' => e = .returned (.int .i64 l) ∧ Below w.heap.size w w') (w : World) :
    Calls Try.prog 12 #[.int .i64 o, .agg #[.float .f64 (a), .float .f64 (b), .int .i64 (d)], .agg #[.float .f64 (a2), .float .f64 (b2), .int .i64 (d2)]] w fun e w' => e = .returned (.agg #[.float .f64 (ofKey (X)), .float .f64 (ofKey (Y)), .int .i64 (min l m)]) ∧ Below w.heap.size w w' := by
  have NA := Lib.hid hNA
  have OA := Lib.hid hOA
  have OB := Lib.hid hOB
  have AP := Lib.hid hAP
  have NO := Lib.hid hNO
  have LO := Lib.hid hLO
  clear hNA hOA hOB hAP hNO hLO
  have bm : (m == 0) = false := by simpa using he
  go_enter Try.func12, Try.ntmps12
  go_wp2_with fail
  refine (NA.out _).mono ?_
  rintro e w1 ⟨rfl, hbw1⟩
  obtain ⟨L0, hL0⟩ : ∃ L0, L0 = (World.alloc (World.alloc (World.alloc w (.cells #[.float .f64 (a), .float .f64 (b), .int .i64 (d)] 31)) (.cells #[.float .f64 (a2), .float .f64 (b2), .int .i64 (d2)] 31)) (.cells #[.float .f64 (0), .float .f64 (0), .int .i64 (0)] 31)) := ⟨_, rfl⟩
  have A0_0 : At L0 (w.heap.size) 0 (.float .f64 (a)) := by rw [hL0]; exact ⟨by simp [go_sem], by simp [go_sem]⟩
  have A0_1 : At L0 (w.heap.size) 1 (.float .f64 (b)) := by rw [hL0]; exact ⟨by simp [go_sem], by simp [go_sem]⟩
  have A0_2 : At L0 (w.heap.size) 2 (.int .i64 (d)) := by rw [hL0]; exact ⟨by simp [go_sem], by simp [go_sem]⟩
  have A1_0 : At L0 (w.heap.size + 1) 0 (.float .f64 (a2)) := by rw [hL0]; exact ⟨by simp [go_sem], by simp [go_sem]⟩
  have A1_1 : At L0 (w.heap.size + 1) 1 (.float .f64 (b2)) := by rw [hL0]; exact ⟨by simp [go_sem], by simp [go_sem]⟩
  have A1_2 : At L0 (w.heap.size + 1) 2 (.int .i64 (d2)) := by rw [hL0]; exact ⟨by simp [go_sem], by simp [go_sem]⟩
  have A2_0 : At L0 (w.heap.size + 1 + 1) 0 (.float .f64 (0)) := by rw [hL0]; exact ⟨by simp [go_sem], by simp [go_sem]⟩
  have A2_1 : At L0 (w.heap.size + 1 + 1) 1 (.float .f64 (0)) := by rw [hL0]; exact ⟨by simp [go_sem], by simp [go_sem]⟩
  have A2_2 : At L0 (w.heap.size + 1 + 1) 2 (.int .i64 (0)) := by rw [hL0]; exact ⟨by simp [go_sem], by simp [go_sem]⟩
  subst hL0
  replace A0_0 := At.below (A0_0) hbw1
  replace A0_1 := At.below (A0_1) hbw1
  replace A0_2 := At.below (A0_2) hbw1
  replace A1_0 := At.below (A1_0) hbw1
  replace A1_1 := At.below (A1_1) hbw1
  replace A1_2 := At.below (A1_2) hbw1
  replace A2_0 := At.below (A2_0) hbw1
  replace A2_1 := At.below (A2_1) hbw1
  replace A2_2 := At.below (A2_2) hbw1
  have B := below_alloc (below_alloc (below_alloc (hbw1)))
  clear hbw1
  have F0_0 := A0_0.1; have G0_0 := A0_0.2
  have F0_1 := A0_1.1; have G0_1 := A0_1.2
  have F0_2 := A0_2.1; have G0_2 := A0_2.2
  have F1_0 := A1_0.1; have G1_0 := A1_0.2
  have F1_1 := A1_1.1; have G1_1 := A1_1.2
  have F1_2 := A1_2.1; have G1_2 := A1_2.2
  have F2_0 := A2_0.1; have G2_0 := A2_0.2
  have F2_1 := A2_1.1; have G2_1 := A2_1.2
  have F2_2 := A2_2.1; have G2_2 := A2_2.2
  have Z0 := A0_0.lt
  have Z1 := A1_0.lt
  have Z2 := A2_0.lt
  go_wp2_with fail
  have k0_0 := cell_regrown A0_0.1
  have k0_1 := cell_regrown A0_1.1
  have k0_2 := cell_regrown A0_2.1
  have k1_0 := cell_regrown A1_0.1
  have k1_1 := cell_regrown A1_1.1
  have k1_2 := cell_regrown A1_2.1
  have k2_0 := cell_regrown A2_0.1
  have k2_1 := cell_regrown A2_1.1
  have k2_2 := cell_regrown A2_2.1
  refine wp_region_below_tail 10 (by kernel_rfl) (by kernel_rfl) ?_
  simp only [List.take_succ_cons, List.take_zero, List.drop_succ_cons, List.drop_zero]
  repeat (go_big_quiet_step ((first | (with_reducible exact Calls.regrown_of (OA.out _)) | (with_reducible exact Calls.regrown_of (OB.out _)))))
  refine wpQuiet_nil (fun w2 hbw2 => ?_)
  clear k0_0 k0_1 k0_2 k1_0 k1_1 k1_2 k2_0 k2_1 k2_2
  clear F0_0 G0_0 F0_1 G0_1 F0_2 G0_2 F1_0 G1_0 F1_1 G1_1 F1_2 G1_2 F2_0 G2_0 F2_1 G2_1 F2_2 G2_2 Z0 Z1 Z2
  replace A0_0 := At.below (A0_0) hbw2
  replace A0_1 := At.below (A0_1) hbw2
  replace A0_2 := At.below (A0_2) hbw2
  replace A1_0 := At.below (A1_0) hbw2
  replace A1_1 := At.below (A1_1) hbw2
  replace A1_2 := At.below (A1_2) hbw2
  replace A2_0 := At.below (A2_0) hbw2
  replace A2_1 := At.below (A2_1) hbw2
  replace A2_2 := At.below (A2_2) hbw2
  replace B := below_step B B.size (hbw2)
  clear hbw2
  have F0_0 := A0_0.1; have G0_0 := A0_0.2
  have F0_1 := A0_1.1; have G0_1 := A0_1.2
  have F0_2 := A0_2.1; have G0_2 := A0_2.2
  have F1_0 := A1_0.1; have G1_0 := A1_0.2
  have F1_1 := A1_1.1; have G1_1 := A1_1.2
  have F1_2 := A1_2.1; have G1_2 := A1_2.2
  have F2_0 := A2_0.1; have G2_0 := A2_0.2
  have F2_1 := A2_1.1; have G2_1 := A2_1.2
  have F2_2 := A2_2.1; have G2_2 := A2_2.2
  have Z0 := A0_0.lt
  have Z1 := A1_0.lt
  have Z2 := A2_0.lt
  iterate 8 go_step
  clear F0_0 G0_0 F0_1 G0_1 F0_2 G0_2 F1_0 G1_0 F1_1 G1_1 F1_2 G1_2 F2_0 G2_0 F2_1 G2_1 F2_2 G2_2 Z0 Z1 Z2
  replace A0_0 := At.set_same A0_0 (.float .f64 (ofKey (A)))
  replace A0_1 := At.set_off (f' := 0) A0_1 (by decide) (.float .f64 (ofKey (A)))
  replace A0_2 := At.set_off (f' := 0) A0_2 (by decide) (.float .f64 (ofKey (A)))
  replace A1_0 := At.set_blk (b' := w.heap.size) (f' := 0) A1_0 (by first | omega | (have := B.size; omega)) (.float .f64 (ofKey (A)))
  replace A1_1 := At.set_blk (b' := w.heap.size) (f' := 0) A1_1 (by first | omega | (have := B.size; omega)) (.float .f64 (ofKey (A)))
  replace A1_2 := At.set_blk (b' := w.heap.size) (f' := 0) A1_2 (by first | omega | (have := B.size; omega)) (.float .f64 (ofKey (A)))
  replace A2_0 := At.set_blk (b' := w.heap.size) (f' := 0) A2_0 (by first | omega | (have := B.size; omega)) (.float .f64 (ofKey (A)))
  replace A2_1 := At.set_blk (b' := w.heap.size) (f' := 0) A2_1 (by first | omega | (have := B.size; omega)) (.float .f64 (ofKey (A)))
  replace A2_2 := At.set_blk (b' := w.heap.size) (f' := 0) A2_2 (by first | omega | (have := B.size; omega)) (.float .f64 (ofKey (A)))
  replace A0_0 := At.set_off (f' := 1) A0_0 (by decide) (.float .f64 (ofKey (Bh)))
  replace A0_1 := At.set_same A0_1 (.float .f64 (ofKey (Bh)))
  replace A0_2 := At.set_off (f' := 1) A0_2 (by decide) (.float .f64 (ofKey (Bh)))
  replace A1_0 := At.set_blk (b' := w.heap.size) (f' := 1) A1_0 (by first | omega | (have := B.size; omega)) (.float .f64 (ofKey (Bh)))
  replace A1_1 := At.set_blk (b' := w.heap.size) (f' := 1) A1_1 (by first | omega | (have := B.size; omega)) (.float .f64 (ofKey (Bh)))
  replace A1_2 := At.set_blk (b' := w.heap.size) (f' := 1) A1_2 (by first | omega | (have := B.size; omega)) (.float .f64 (ofKey (Bh)))
  replace A2_0 := At.set_blk (b' := w.heap.size) (f' := 1) A2_0 (by first | omega | (have := B.size; omega)) (.float .f64 (ofKey (Bh)))
  replace A2_1 := At.set_blk (b' := w.heap.size) (f' := 1) A2_1 (by first | omega | (have := B.size; omega)) (.float .f64 (ofKey (Bh)))
  replace A2_2 := At.set_blk (b' := w.heap.size) (f' := 1) A2_2 (by first | omega | (have := B.size; omega)) (.float .f64 (ofKey (Bh)))
  replace A0_0 := At.set_off (f' := 2) A0_0 (by decide) (.int .i64 (m))
  replace A0_1 := At.set_off (f' := 2) A0_1 (by decide) (.int .i64 (m))
  replace A0_2 := At.set_same A0_2 (.int .i64 (m))
  replace A1_0 := At.set_blk (b' := w.heap.size) (f' := 2) A1_0 (by first | omega | (have := B.size; omega)) (.int .i64 (m))
  replace A1_1 := At.set_blk (b' := w.heap.size) (f' := 2) A1_1 (by first | omega | (have := B.size; omega)) (.int .i64 (m))
  replace A1_2 := At.set_blk (b' := w.heap.size) (f' := 2) A1_2 (by first | omega | (have := B.size; omega)) (.int .i64 (m))
  replace A2_0 := At.set_blk (b' := w.heap.size) (f' := 2) A2_0 (by first | omega | (have := B.size; omega)) (.int .i64 (m))
  replace A2_1 := At.set_blk (b' := w.heap.size) (f' := 2) A2_1 (by first | omega | (have := B.size; omega)) (.int .i64 (m))
  replace A2_2 := At.set_blk (b' := w.heap.size) (f' := 2) A2_2 (by first | omega | (have := B.size; omega)) (.int .i64 (m))
  replace A0_0 := At.set_blk (b' := w.heap.size + 1) (f' := 0) A0_0 (by first | omega | (have := B.size; omega)) (.float .f64 (ofKey (C)))
  replace A0_1 := At.set_blk (b' := w.heap.size + 1) (f' := 0) A0_1 (by first | omega | (have := B.size; omega)) (.float .f64 (ofKey (C)))
  replace A0_2 := At.set_blk (b' := w.heap.size + 1) (f' := 0) A0_2 (by first | omega | (have := B.size; omega)) (.float .f64 (ofKey (C)))
  replace A1_0 := At.set_same A1_0 (.float .f64 (ofKey (C)))
  replace A1_1 := At.set_off (f' := 0) A1_1 (by decide) (.float .f64 (ofKey (C)))
  replace A1_2 := At.set_off (f' := 0) A1_2 (by decide) (.float .f64 (ofKey (C)))
  replace A2_0 := At.set_blk (b' := w.heap.size + 1) (f' := 0) A2_0 (by first | omega | (have := B.size; omega)) (.float .f64 (ofKey (C)))
  replace A2_1 := At.set_blk (b' := w.heap.size + 1) (f' := 0) A2_1 (by first | omega | (have := B.size; omega)) (.float .f64 (ofKey (C)))
  replace A2_2 := At.set_blk (b' := w.heap.size + 1) (f' := 0) A2_2 (by first | omega | (have := B.size; omega)) (.float .f64 (ofKey (C)))
  replace A0_0 := At.set_blk (b' := w.heap.size + 1) (f' := 1) A0_0 (by first | omega | (have := B.size; omega)) (.float .f64 (ofKey (D)))
  replace A0_1 := At.set_blk (b' := w.heap.size + 1) (f' := 1) A0_1 (by first | omega | (have := B.size; omega)) (.float .f64 (ofKey (D)))
  replace A0_2 := At.set_blk (b' := w.heap.size + 1) (f' := 1) A0_2 (by first | omega | (have := B.size; omega)) (.float .f64 (ofKey (D)))
  replace A1_0 := At.set_off (f' := 1) A1_0 (by decide) (.float .f64 (ofKey (D)))
  replace A1_1 := At.set_same A1_1 (.float .f64 (ofKey (D)))
  replace A1_2 := At.set_off (f' := 1) A1_2 (by decide) (.float .f64 (ofKey (D)))
  replace A2_0 := At.set_blk (b' := w.heap.size + 1) (f' := 1) A2_0 (by first | omega | (have := B.size; omega)) (.float .f64 (ofKey (D)))
  replace A2_1 := At.set_blk (b' := w.heap.size + 1) (f' := 1) A2_1 (by first | omega | (have := B.size; omega)) (.float .f64 (ofKey (D)))
  replace A2_2 := At.set_blk (b' := w.heap.size + 1) (f' := 1) A2_2 (by first | omega | (have := B.size; omega)) (.float .f64 (ofKey (D)))
  replace A0_0 := At.set_blk (b' := w.heap.size + 1) (f' := 2) A0_0 (by first | omega | (have := B.size; omega)) (.int .i64 (n))
  replace A0_1 := At.set_blk (b' := w.heap.size + 1) (f' := 2) A0_1 (by first | omega | (have := B.size; omega)) (.int .i64 (n))
  replace A0_2 := At.set_blk (b' := w.heap.size + 1) (f' := 2) A0_2 (by first | omega | (have := B.size; omega)) (.int .i64 (n))
  replace A1_0 := At.set_off (f' := 2) A1_0 (by decide) (.int .i64 (n))
  replace A1_1 := At.set_off (f' := 2) A1_1 (by decide) (.int .i64 (n))
  replace A1_2 := At.set_same A1_2 (.int .i64 (n))
  replace A2_0 := At.set_blk (b' := w.heap.size + 1) (f' := 2) A2_0 (by first | omega | (have := B.size; omega)) (.int .i64 (n))
  replace A2_1 := At.set_blk (b' := w.heap.size + 1) (f' := 2) A2_1 (by first | omega | (have := B.size; omega)) (.int .i64 (n))
  replace A2_2 := At.set_blk (b' := w.heap.size + 1) (f' := 2) A2_2 (by first | omega | (have := B.size; omega)) (.int .i64 (n))
  have B' : Below w.heap.size w (World.setCell (World.setCell (World.setCell (World.setCell (World.setCell (World.setCell w2 ⟨w.heap.size, 0, none⟩ (.float .f64 (ofKey (A)))) ⟨w.heap.size, 1, none⟩ (.float .f64 (ofKey (Bh)))) ⟨w.heap.size, 2, none⟩ (.int .i64 (m))) ⟨w.heap.size + 1, 0, none⟩ (.float .f64 (ofKey (C)))) ⟨w.heap.size + 1, 1, none⟩ (.float .f64 (ofKey (D)))) ⟨w.heap.size + 1, 2, none⟩ (.int .i64 (n))) := (Below.setCell (Below.setCell (Below.setCell (Below.setCell (Below.setCell (Below.setCell B (p := ⟨w.heap.size, 0, none⟩) (by first | (show w.heap.size ≤ w.heap.size; omega) | (have := B.size; show w.heap.size ≤ w.heap.size; omega)) (.float .f64 (ofKey (A)))) (p := ⟨w.heap.size, 1, none⟩) (by first | (show w.heap.size ≤ w.heap.size; omega) | (have := B.size; show w.heap.size ≤ w.heap.size; omega)) (.float .f64 (ofKey (Bh)))) (p := ⟨w.heap.size, 2, none⟩) (by first | (show w.heap.size ≤ w.heap.size; omega) | (have := B.size; show w.heap.size ≤ w.heap.size; omega)) (.int .i64 (m))) (p := ⟨w.heap.size + 1, 0, none⟩) (by first | (show w.heap.size ≤ w.heap.size + 1; omega) | (have := B.size; show w.heap.size ≤ w.heap.size + 1; omega)) (.float .f64 (ofKey (C)))) (p := ⟨w.heap.size + 1, 1, none⟩) (by first | (show w.heap.size ≤ w.heap.size + 1; omega) | (have := B.size; show w.heap.size ≤ w.heap.size + 1; omega)) (.float .f64 (ofKey (D)))) (p := ⟨w.heap.size + 1, 2, none⟩) (by first | (show w.heap.size ≤ w.heap.size + 1; omega) | (have := B.size; show w.heap.size ≤ w.heap.size + 1; omega)) (.int .i64 (n)))
  clear B
  obtain ⟨w3, hw3⟩ : ∃ w3, w3 = (World.setCell (World.setCell (World.setCell (World.setCell (World.setCell (World.setCell w2 ⟨w.heap.size, 0, none⟩ (.float .f64 (ofKey (A)))) ⟨w.heap.size, 1, none⟩ (.float .f64 (ofKey (Bh)))) ⟨w.heap.size, 2, none⟩ (.int .i64 (m))) ⟨w.heap.size + 1, 0, none⟩ (.float .f64 (ofKey (C)))) ⟨w.heap.size + 1, 1, none⟩ (.float .f64 (ofKey (D)))) ⟨w.heap.size + 1, 2, none⟩ (.int .i64 (n))) := ⟨_, rfl⟩
  rw [← hw3]
  replace A0_0 := At.of A0_0 hw3
  replace A0_1 := At.of A0_1 hw3
  replace A0_2 := At.of A0_2 hw3
  replace A1_0 := At.of A1_0 hw3
  replace A1_1 := At.of A1_1 hw3
  replace A1_2 := At.of A1_2 hw3
  replace A2_0 := At.of A2_0 hw3
  replace A2_1 := At.of A2_1 hw3
  replace A2_2 := At.of A2_2 hw3
  have B := below_of B' hw3
  clear B' hw3
  have F0_0 := A0_0.1; have G0_0 := A0_0.2
  have F0_1 := A0_1.1; have G0_1 := A0_1.2
  have F0_2 := A0_2.1; have G0_2 := A0_2.2
  have F1_0 := A1_0.1; have G1_0 := A1_0.2
  have F1_1 := A1_1.1; have G1_1 := A1_1.2
  have F1_2 := A1_2.1; have G1_2 := A1_2.2
  have F2_0 := A2_0.1; have G2_0 := A2_0.2
  have F2_1 := A2_1.1; have G2_1 := A2_1.2
  have F2_2 := A2_2.1; have G2_2 := A2_2.2
  have Z0 := A0_0.lt
  have Z1 := A1_0.lt
  have Z2 := A2_0.lt
  go_wp2_with fail
  clear F0_0 G0_0 F0_1 G0_1 F0_2 G0_2 F1_0 G1_0 F1_1 G1_1 F1_2 G1_2 F2_0 G2_0 F2_1 G2_1 F2_2 G2_2 Z0 Z1 Z2
  replace A0_0 := At.set_blk (b' := w.heap.size + 1) (f' := 0) A0_0 (by first | omega | (have := B.size; omega)) (.float .f64 (ofKey (A)))
  replace A0_1 := At.set_blk (b' := w.heap.size + 1) (f' := 0) A0_1 (by first | omega | (have := B.size; omega)) (.float .f64 (ofKey (A)))
  replace A0_2 := At.set_blk (b' := w.heap.size + 1) (f' := 0) A0_2 (by first | omega | (have := B.size; omega)) (.float .f64 (ofKey (A)))
  replace A1_0 := At.set_same A1_0 (.float .f64 (ofKey (A)))
  replace A1_1 := At.set_off (f' := 0) A1_1 (by decide) (.float .f64 (ofKey (A)))
  replace A1_2 := At.set_off (f' := 0) A1_2 (by decide) (.float .f64 (ofKey (A)))
  replace A2_0 := At.set_blk (b' := w.heap.size + 1) (f' := 0) A2_0 (by first | omega | (have := B.size; omega)) (.float .f64 (ofKey (A)))
  replace A2_1 := At.set_blk (b' := w.heap.size + 1) (f' := 0) A2_1 (by first | omega | (have := B.size; omega)) (.float .f64 (ofKey (A)))
  replace A2_2 := At.set_blk (b' := w.heap.size + 1) (f' := 0) A2_2 (by first | omega | (have := B.size; omega)) (.float .f64 (ofKey (A)))
  replace A0_0 := At.set_blk (b' := w.heap.size + 1) (f' := 1) A0_0 (by first | omega | (have := B.size; omega)) (.float .f64 (ofKey (Bh)))
  replace A0_1 := At.set_blk (b' := w.heap.size + 1) (f' := 1) A0_1 (by first | omega | (have := B.size; omega)) (.float .f64 (ofKey (Bh)))
  replace A0_2 := At.set_blk (b' := w.heap.size + 1) (f' := 1) A0_2 (by first | omega | (have := B.size; omega)) (.float .f64 (ofKey (Bh)))
  replace A1_0 := At.set_off (f' := 1) A1_0 (by decide) (.float .f64 (ofKey (Bh)))
  replace A1_1 := At.set_same A1_1 (.float .f64 (ofKey (Bh)))
  replace A1_2 := At.set_off (f' := 1) A1_2 (by decide) (.float .f64 (ofKey (Bh)))
  replace A2_0 := At.set_blk (b' := w.heap.size + 1) (f' := 1) A2_0 (by first | omega | (have := B.size; omega)) (.float .f64 (ofKey (Bh)))
  replace A2_1 := At.set_blk (b' := w.heap.size + 1) (f' := 1) A2_1 (by first | omega | (have := B.size; omega)) (.float .f64 (ofKey (Bh)))
  replace A2_2 := At.set_blk (b' := w.heap.size + 1) (f' := 1) A2_2 (by first | omega | (have := B.size; omega)) (.float .f64 (ofKey (Bh)))
  replace A0_0 := At.set_blk (b' := w.heap.size + 1) (f' := 2) A0_0 (by first | omega | (have := B.size; omega)) (.int .i64 (m))
  replace A0_1 := At.set_blk (b' := w.heap.size + 1) (f' := 2) A0_1 (by first | omega | (have := B.size; omega)) (.int .i64 (m))
  replace A0_2 := At.set_blk (b' := w.heap.size + 1) (f' := 2) A0_2 (by first | omega | (have := B.size; omega)) (.int .i64 (m))
  replace A1_0 := At.set_off (f' := 2) A1_0 (by decide) (.int .i64 (m))
  replace A1_1 := At.set_off (f' := 2) A1_1 (by decide) (.int .i64 (m))
  replace A1_2 := At.set_same A1_2 (.int .i64 (m))
  replace A2_0 := At.set_blk (b' := w.heap.size + 1) (f' := 2) A2_0 (by first | omega | (have := B.size; omega)) (.int .i64 (m))
  replace A2_1 := At.set_blk (b' := w.heap.size + 1) (f' := 2) A2_1 (by first | omega | (have := B.size; omega)) (.int .i64 (m))
  replace A2_2 := At.set_blk (b' := w.heap.size + 1) (f' := 2) A2_2 (by first | omega | (have := B.size; omega)) (.int .i64 (m))
  have B' : Below w.heap.size w (World.setCell (World.setCell (World.setCell w3 ⟨w.heap.size + 1, 0, none⟩ (.float .f64 (ofKey (A)))) ⟨w.heap.size + 1, 1, none⟩ (.float .f64 (ofKey (Bh)))) ⟨w.heap.size + 1, 2, none⟩ (.int .i64 (m))) := (Below.setCell (Below.setCell (Below.setCell B (p := ⟨w.heap.size + 1, 0, none⟩) (by first | (show w.heap.size ≤ w.heap.size + 1; omega) | (have := B.size; show w.heap.size ≤ w.heap.size + 1; omega)) (.float .f64 (ofKey (A)))) (p := ⟨w.heap.size + 1, 1, none⟩) (by first | (show w.heap.size ≤ w.heap.size + 1; omega) | (have := B.size; show w.heap.size ≤ w.heap.size + 1; omega)) (.float .f64 (ofKey (Bh)))) (p := ⟨w.heap.size + 1, 2, none⟩) (by first | (show w.heap.size ≤ w.heap.size + 1; omega) | (have := B.size; show w.heap.size ≤ w.heap.size + 1; omega)) (.int .i64 (m)))
  clear B
  obtain ⟨w4, hw4⟩ : ∃ w4, w4 = (World.setCell (World.setCell (World.setCell w3 ⟨w.heap.size + 1, 0, none⟩ (.float .f64 (ofKey (A)))) ⟨w.heap.size + 1, 1, none⟩ (.float .f64 (ofKey (Bh)))) ⟨w.heap.size + 1, 2, none⟩ (.int .i64 (m))) := ⟨_, rfl⟩
  rw [← hw4]
  replace A0_0 := At.of A0_0 hw4
  replace A0_1 := At.of A0_1 hw4
  replace A0_2 := At.of A0_2 hw4
  replace A1_0 := At.of A1_0 hw4
  replace A1_1 := At.of A1_1 hw4
  replace A1_2 := At.of A1_2 hw4
  replace A2_0 := At.of A2_0 hw4
  replace A2_1 := At.of A2_1 hw4
  replace A2_2 := At.of A2_2 hw4
  have B := below_of B' hw4
  clear B' hw4
  have F0_0 := A0_0.1; have G0_0 := A0_0.2
  have F0_1 := A0_1.1; have G0_1 := A0_1.2
  have F0_2 := A0_2.1; have G0_2 := A0_2.2
  have F1_0 := A1_0.1; have G1_0 := A1_0.2
  have F1_1 := A1_1.1; have G1_1 := A1_1.2
  have F1_2 := A1_2.1; have G1_2 := A1_2.2
  have F2_0 := A2_0.1; have G2_0 := A2_0.2
  have F2_1 := A2_1.1; have G2_1 := A2_1.2
  have F2_2 := A2_2.1; have G2_2 := A2_2.2
  have Z0 := A0_0.lt
  have Z1 := A1_0.lt
  have Z2 := A2_0.lt
  refine (AP.out _).mono ?_
  rintro e w5 ⟨rfl, hbw5⟩
  clear F0_0 G0_0 F0_1 G0_1 F0_2 G0_2 F1_0 G1_0 F1_1 G1_1 F1_2 G1_2 F2_0 G2_0 F2_1 G2_1 F2_2 G2_2 Z0 Z1 Z2
  replace A0_0 := At.below (A0_0) hbw5
  replace A0_1 := At.below (A0_1) hbw5
  replace A0_2 := At.below (A0_2) hbw5
  replace A1_0 := At.below (A1_0) hbw5
  replace A1_1 := At.below (A1_1) hbw5
  replace A1_2 := At.below (A1_2) hbw5
  replace A2_0 := At.below (A2_0) hbw5
  replace A2_1 := At.below (A2_1) hbw5
  replace A2_2 := At.below (A2_2) hbw5
  replace B := below_step B B.size (hbw5)
  clear hbw5
  have F0_0 := A0_0.1; have G0_0 := A0_0.2
  have F0_1 := A0_1.1; have G0_1 := A0_1.2
  have F0_2 := A0_2.1; have G0_2 := A0_2.2
  have F1_0 := A1_0.1; have G1_0 := A1_0.2
  have F1_1 := A1_1.1; have G1_1 := A1_1.2
  have F1_2 := A1_2.1; have G1_2 := A1_2.2
  have F2_0 := A2_0.1; have G2_0 := A2_0.2
  have F2_1 := A2_1.1; have G2_1 := A2_1.2
  have F2_2 := A2_2.1; have G2_2 := A2_2.2
  have Z0 := A0_0.lt
  have Z1 := A1_0.lt
  have Z2 := A2_0.lt
  go_wp2_with fail
  refine (NO.out _).mono ?_
  rintro e w6 ⟨rfl, hbw6⟩
  clear F0_0 G0_0 F0_1 G0_1 F0_2 G0_2 F1_0 G1_0 F1_1 G1_1 F1_2 G1_2 F2_0 G2_0 F2_1 G2_1 F2_2 G2_2 Z0 Z1 Z2
  have n1 : w.heap.size + 1 + 1 < w5.heap.size := At.lt A2_2
  replace A0_0 := At.below (At.alloc (A0_0)) hbw6
  replace A0_1 := At.below (At.alloc (A0_1)) hbw6
  replace A0_2 := At.below (At.alloc (A0_2)) hbw6
  replace A1_0 := At.below (At.alloc (A1_0)) hbw6
  replace A1_1 := At.below (At.alloc (A1_1)) hbw6
  replace A1_2 := At.below (At.alloc (A1_2)) hbw6
  replace A2_0 := At.below (At.alloc (A2_0)) hbw6
  replace A2_1 := At.below (At.alloc (A2_1)) hbw6
  replace A2_2 := At.below (At.alloc (A2_2)) hbw6
  have A3_0 : At (World.alloc w5 (.cells #[.float .f64 (ofKey (X)), .float .f64 (ofKey (Y))] 27)) (w5.heap.size) 0 (.float .f64 (ofKey (X))) := ⟨by simp [go_sem], by simp [go_sem]⟩
  replace A3_0 := At.below A3_0 hbw6
  have A3_1 : At (World.alloc w5 (.cells #[.float .f64 (ofKey (X)), .float .f64 (ofKey (Y))] 27)) (w5.heap.size) 1 (.float .f64 (ofKey (Y))) := ⟨by simp [go_sem], by simp [go_sem]⟩
  replace A3_1 := At.below A3_1 hbw6
  replace B := below_step B B.size (below_alloc (hbw6))
  clear hbw6
  have F0_0 := A0_0.1; have G0_0 := A0_0.2
  have F0_1 := A0_1.1; have G0_1 := A0_1.2
  have F0_2 := A0_2.1; have G0_2 := A0_2.2
  have F1_0 := A1_0.1; have G1_0 := A1_0.2
  have F1_1 := A1_1.1; have G1_1 := A1_1.2
  have F1_2 := A1_2.1; have G1_2 := A1_2.2
  have F2_0 := A2_0.1; have G2_0 := A2_0.2
  have F2_1 := A2_1.1; have G2_1 := A2_1.2
  have F2_2 := A2_2.1; have G2_2 := A2_2.2
  have F3_0 := A3_0.1; have G3_0 := A3_0.2
  have F3_1 := A3_1.1; have G3_1 := A3_1.2
  have Z0 := A0_0.lt
  have Z1 := A1_0.lt
  have Z2 := A2_0.lt
  have Z3 := A3_0.lt
  go_wp2_with fail
  refine (NO.out _).mono ?_
  rintro e w7 ⟨rfl, hbw7⟩
  clear F0_0 G0_0 F0_1 G0_1 F0_2 G0_2 F1_0 G1_0 F1_1 G1_1 F1_2 G1_2 F2_0 G2_0 F2_1 G2_1 F2_2 G2_2 F3_0 G3_0 F3_1 G3_1 Z0 Z1 Z2 Z3
  replace A0_0 := At.below (A0_0) hbw7
  replace A0_1 := At.below (A0_1) hbw7
  replace A0_2 := At.below (A0_2) hbw7
  replace A1_0 := At.below (A1_0) hbw7
  replace A1_1 := At.below (A1_1) hbw7
  replace A1_2 := At.below (A1_2) hbw7
  replace A2_0 := At.below (A2_0) hbw7
  replace A2_1 := At.below (A2_1) hbw7
  replace A2_2 := At.below (A2_2) hbw7
  replace A3_0 := At.below (A3_0) hbw7
  replace A3_1 := At.below (A3_1) hbw7
  replace B := below_step B B.size (hbw7)
  clear hbw7
  have F0_0 := A0_0.1; have G0_0 := A0_0.2
  have F0_1 := A0_1.1; have G0_1 := A0_1.2
  have F0_2 := A0_2.1; have G0_2 := A0_2.2
  have F1_0 := A1_0.1; have G1_0 := A1_0.2
  have F1_1 := A1_1.1; have G1_1 := A1_1.2
  have F1_2 := A1_2.1; have G1_2 := A1_2.2
  have F2_0 := A2_0.1; have G2_0 := A2_0.2
  have F2_1 := A2_1.1; have G2_1 := A2_1.2
  have F2_2 := A2_2.1; have G2_2 := A2_2.2
  have F3_0 := A3_0.1; have G3_0 := A3_0.2
  have F3_1 := A3_1.1; have G3_1 := A3_1.2
  have Z0 := A0_0.lt
  have Z1 := A1_0.lt
  have Z2 := A2_0.lt
  have Z3 := A3_0.lt
  go_wp2_with fail
  refine (LO.out _).mono ?_
  rintro e w8 ⟨rfl, hbw8⟩
  clear F0_0 G0_0 F0_1 G0_1 F0_2 G0_2 F1_0 G1_0 F1_1 G1_1 F1_2 G1_2 F2_0 G2_0 F2_1 G2_1 F2_2 G2_2 F3_0 G3_0 F3_1 G3_1 Z0 Z1 Z2 Z3
  replace A0_0 := At.below (A0_0) hbw8
  replace A0_1 := At.below (A0_1) hbw8
  replace A0_2 := At.below (A0_2) hbw8
  replace A1_0 := At.below (A1_0) hbw8
  replace A1_1 := At.below (A1_1) hbw8
  replace A1_2 := At.below (A1_2) hbw8
  replace A2_0 := At.below (A2_0) hbw8
  replace A2_1 := At.below (A2_1) hbw8
  replace A2_2 := At.below (A2_2) hbw8
  replace A3_0 := At.below (A3_0) hbw8
  replace A3_1 := At.below (A3_1) hbw8
  replace B := below_step B B.size (hbw8)
  clear hbw8
  have F0_0 := A0_0.1; have G0_0 := A0_0.2
  have F0_1 := A0_1.1; have G0_1 := A0_1.2
  have F0_2 := A0_2.1; have G0_2 := A0_2.2
  have F1_0 := A1_0.1; have G1_0 := A1_0.2
  have F1_1 := A1_1.1; have G1_1 := A1_1.2
  have F1_2 := A1_2.1; have G1_2 := A1_2.2
  have F2_0 := A2_0.1; have G2_0 := A2_0.2
  have F2_1 := A2_1.1; have G2_1 := A2_1.2
  have F2_2 := A2_2.1; have G2_2 := A2_2.2
  have F3_0 := A3_0.1; have G3_0 := A3_0.2
  have F3_1 := A3_1.1; have G3_1 := A3_1.2
  have Z0 := A0_0.lt
  have Z1 := A1_0.lt
  have Z2 := A2_0.lt
  have Z3 := A3_0.lt
  go_wp2_with fail
  clear F0_0 G0_0 F0_1 G0_1 F0_2 G0_2 F1_0 G1_0 F1_1 G1_1 F1_2 G1_2 F2_0 G2_0 F2_1 G2_1 F2_2 G2_2 F3_0 G3_0 F3_1 G3_1 Z0 Z1 Z2 Z3
  replace A0_0 := At.set_blk (b' := w.heap.size + 1 + 1) (f' := 0) A0_0 (by first | omega | (have := B.size; omega)) (.float .f64 (ofKey (X)))
  replace A0_1 := At.set_blk (b' := w.heap.size + 1 + 1) (f' := 0) A0_1 (by first | omega | (have := B.size; omega)) (.float .f64 (ofKey (X)))
  replace A0_2 := At.set_blk (b' := w.heap.size + 1 + 1) (f' := 0) A0_2 (by first | omega | (have := B.size; omega)) (.float .f64 (ofKey (X)))
  replace A1_0 := At.set_blk (b' := w.heap.size + 1 + 1) (f' := 0) A1_0 (by first | omega | (have := B.size; omega)) (.float .f64 (ofKey (X)))
  replace A1_1 := At.set_blk (b' := w.heap.size + 1 + 1) (f' := 0) A1_1 (by first | omega | (have := B.size; omega)) (.float .f64 (ofKey (X)))
  replace A1_2 := At.set_blk (b' := w.heap.size + 1 + 1) (f' := 0) A1_2 (by first | omega | (have := B.size; omega)) (.float .f64 (ofKey (X)))
  replace A2_0 := At.set_same A2_0 (.float .f64 (ofKey (X)))
  replace A2_1 := At.set_off (f' := 0) A2_1 (by decide) (.float .f64 (ofKey (X)))
  replace A2_2 := At.set_off (f' := 0) A2_2 (by decide) (.float .f64 (ofKey (X)))
  replace A3_0 := At.set_blk (b' := w.heap.size + 1 + 1) (f' := 0) A3_0 (by first | omega | (have := B.size; omega)) (.float .f64 (ofKey (X)))
  replace A3_1 := At.set_blk (b' := w.heap.size + 1 + 1) (f' := 0) A3_1 (by first | omega | (have := B.size; omega)) (.float .f64 (ofKey (X)))
  replace A0_0 := At.set_blk (b' := w.heap.size + 1 + 1) (f' := 1) A0_0 (by first | omega | (have := B.size; omega)) (.float .f64 (ofKey (Y)))
  replace A0_1 := At.set_blk (b' := w.heap.size + 1 + 1) (f' := 1) A0_1 (by first | omega | (have := B.size; omega)) (.float .f64 (ofKey (Y)))
  replace A0_2 := At.set_blk (b' := w.heap.size + 1 + 1) (f' := 1) A0_2 (by first | omega | (have := B.size; omega)) (.float .f64 (ofKey (Y)))
  replace A1_0 := At.set_blk (b' := w.heap.size + 1 + 1) (f' := 1) A1_0 (by first | omega | (have := B.size; omega)) (.float .f64 (ofKey (Y)))
  replace A1_1 := At.set_blk (b' := w.heap.size + 1 + 1) (f' := 1) A1_1 (by first | omega | (have := B.size; omega)) (.float .f64 (ofKey (Y)))
  replace A1_2 := At.set_blk (b' := w.heap.size + 1 + 1) (f' := 1) A1_2 (by first | omega | (have := B.size; omega)) (.float .f64 (ofKey (Y)))
  replace A2_0 := At.set_off (f' := 1) A2_0 (by decide) (.float .f64 (ofKey (Y)))
  replace A2_1 := At.set_same A2_1 (.float .f64 (ofKey (Y)))
  replace A2_2 := At.set_off (f' := 1) A2_2 (by decide) (.float .f64 (ofKey (Y)))
  replace A3_0 := At.set_blk (b' := w.heap.size + 1 + 1) (f' := 1) A3_0 (by first | omega | (have := B.size; omega)) (.float .f64 (ofKey (Y)))
  replace A3_1 := At.set_blk (b' := w.heap.size + 1 + 1) (f' := 1) A3_1 (by first | omega | (have := B.size; omega)) (.float .f64 (ofKey (Y)))
  replace A0_0 := At.set_blk (b' := w.heap.size + 1 + 1) (f' := 2) A0_0 (by first | omega | (have := B.size; omega)) (.int .i64 (min l m))
  replace A0_1 := At.set_blk (b' := w.heap.size + 1 + 1) (f' := 2) A0_1 (by first | omega | (have := B.size; omega)) (.int .i64 (min l m))
  replace A0_2 := At.set_blk (b' := w.heap.size + 1 + 1) (f' := 2) A0_2 (by first | omega | (have := B.size; omega)) (.int .i64 (min l m))
  replace A1_0 := At.set_blk (b' := w.heap.size + 1 + 1) (f' := 2) A1_0 (by first | omega | (have := B.size; omega)) (.int .i64 (min l m))
  replace A1_1 := At.set_blk (b' := w.heap.size + 1 + 1) (f' := 2) A1_1 (by first | omega | (have := B.size; omega)) (.int .i64 (min l m))
  replace A1_2 := At.set_blk (b' := w.heap.size + 1 + 1) (f' := 2) A1_2 (by first | omega | (have := B.size; omega)) (.int .i64 (min l m))
  replace A2_0 := At.set_off (f' := 2) A2_0 (by decide) (.int .i64 (min l m))
  replace A2_1 := At.set_off (f' := 2) A2_1 (by decide) (.int .i64 (min l m))
  replace A2_2 := At.set_same A2_2 (.int .i64 (min l m))
  replace A3_0 := At.set_blk (b' := w.heap.size + 1 + 1) (f' := 2) A3_0 (by first | omega | (have := B.size; omega)) (.int .i64 (min l m))
  replace A3_1 := At.set_blk (b' := w.heap.size + 1 + 1) (f' := 2) A3_1 (by first | omega | (have := B.size; omega)) (.int .i64 (min l m))
  have B' : Below w.heap.size w (World.setCell (World.setCell (World.setCell w8 ⟨w.heap.size + 1 + 1, 0, none⟩ (.float .f64 (ofKey (X)))) ⟨w.heap.size + 1 + 1, 1, none⟩ (.float .f64 (ofKey (Y)))) ⟨w.heap.size + 1 + 1, 2, none⟩ (.int .i64 (min l m))) := (Below.setCell (Below.setCell (Below.setCell B (p := ⟨w.heap.size + 1 + 1, 0, none⟩) (by first | (show w.heap.size ≤ w.heap.size + 1 + 1; omega) | (have := B.size; show w.heap.size ≤ w.heap.size + 1 + 1; omega)) (.float .f64 (ofKey (X)))) (p := ⟨w.heap.size + 1 + 1, 1, none⟩) (by first | (show w.heap.size ≤ w.heap.size + 1 + 1; omega) | (have := B.size; show w.heap.size ≤ w.heap.size + 1 + 1; omega)) (.float .f64 (ofKey (Y)))) (p := ⟨w.heap.size + 1 + 1, 2, none⟩) (by first | (show w.heap.size ≤ w.heap.size + 1 + 1; omega) | (have := B.size; show w.heap.size ≤ w.heap.size + 1 + 1; omega)) (.int .i64 (min l m)))
  clear B
  obtain ⟨wz, hwz⟩ : ∃ wz, wz = (World.setCell (World.setCell (World.setCell w8 ⟨w.heap.size + 1 + 1, 0, none⟩ (.float .f64 (ofKey (X)))) ⟨w.heap.size + 1 + 1, 1, none⟩ (.float .f64 (ofKey (Y)))) ⟨w.heap.size + 1 + 1, 2, none⟩ (.int .i64 (min l m))) := ⟨_, rfl⟩
  rw [← hwz]
  replace A0_0 := At.of A0_0 hwz
  replace A0_1 := At.of A0_1 hwz
  replace A0_2 := At.of A0_2 hwz
  replace A1_0 := At.of A1_0 hwz
  replace A1_1 := At.of A1_1 hwz
  replace A1_2 := At.of A1_2 hwz
  replace A2_0 := At.of A2_0 hwz
  replace A2_1 := At.of A2_1 hwz
  replace A2_2 := At.of A2_2 hwz
  replace A3_0 := At.of A3_0 hwz
  replace A3_1 := At.of A3_1 hwz
  have B := below_of B' hwz
  clear B' hwz
  have F0_0 := A0_0.1; have G0_0 := A0_0.2
  have F0_1 := A0_1.1; have G0_1 := A0_1.2
  have F0_2 := A0_2.1; have G0_2 := A0_2.2
  have F1_0 := A1_0.1; have G1_0 := A1_0.2
  have F1_1 := A1_1.1; have G1_1 := A1_1.2
  have F1_2 := A1_2.1; have G1_2 := A1_2.2
  have F2_0 := A2_0.1; have G2_0 := A2_0.2
  have F2_1 := A2_1.1; have G2_1 := A2_1.2
  have F2_2 := A2_2.1; have G2_2 := A2_2.2
  have F3_0 := A3_0.1; have G3_0 := A3_0.2
  have F3_1 := A3_1.1; have G3_1 := A3_1.2
  have Z0 := A0_0.lt
  have Z1 := A1_0.lt
  have Z2 := A2_0.lt
  have Z3 := A3_0.lt
  refine bodyPost_ret (v := .agg #[.float .f64 (ofKey (X)), .float .f64 (ofKey (Y)), .int .i64 (min l m)]) (by simp [results, Try.results12, go_sem, F2_0, F2_1, F2_2]) rfl ⟨rfl, ?_⟩
  exact B


end Go.Proofs.Yteephgpefhodnab
