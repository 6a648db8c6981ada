/- Package ivl: quotients of intervals. -/
import Derived.Test.YteephgpefhodnabC3
namespace Go.Proofs.Yteephgpefhodnab
open Go.RowKit Go.Sort Go.Fl
set_option linter.unusedSimpArgs false
set_option linter.unusedVariables false

/-- A quotient by numbers from 0 on. -/
noncomputable def divPLo (a b c d : Int) : Int := if a = 0 ∧ b = 0 then 0 else if 0 < c ∧ d < PI then loN 9 a b c d 4 else if 0 ≤ a then endK 9 a d false else if 0 < c then endK 9 a c false else -PI
noncomputable def divPHi (a b c d : Int) : Int := if a = 0 ∧ b = 0 then 0 else if 0 < c ∧ d < PI then hiN 9 a b c d 4 else if b ≤ 0 then endK 9 b d true else if 0 < c then endK 9 b c true else PI
noncomputable def divLo (a b c d : Int) : Int := if c = 0 ∧ d = 0 then PI else if a = 0 ∧ b = 0 then 0 else if c < 0 ∧ 0 < d then -PI else if d ≤ 0 then divPLo (-b) (-a) (-d) (-c) else divPLo a b c d
noncomputable def divHi (a b c d : Int) : Int := if c = 0 ∧ d = 0 then -PI else if a = 0 ∧ b = 0 then 0 else if c < 0 ∧ 0 < d then PI else if d ≤ 0 then divPHi (-b) (-a) (-d) (-c) else divPHi a b c d

set_option maxHeartbeats 1000000 in
theorem div_p1 (a b c d : Int) (ha : Rg a) (hb : Rg b) (hc : Rg c) (hd : Rg d) (h0 : 0 ≤ c) (h1 : 0 < d) (dA : decide (a = 0) = true) (dB : decide (b = 0) = true) (w : World) :
    Calls Try.prog 34 #[.agg #[.float .f64 (ofKey (a)), .float .f64 (ofKey (b))], .agg #[.float .f64 (ofKey (c)), .float .f64 (ofKey (d))]] w fun e w' => e = .returned (.agg #[.float .f64 (ofKey (0)), .float .f64 (ofKey (0))]) ∧ Below w.heap.size w w' := by
  have he := eqiv
  have hP := PI_pos
  have q1 := ha.1; have q2 := ha.2; have q3 := hb.1; have q4 := hb.2; have q5 := hc.1; have q6 := hc.2; have q7 := hd.1; have q8 := hd.2
  have dD : decide (d = 0) = false := decide_eq_false (by omega)
  rw [← zero_ofKey]
  go_enter Try.func34, Try.ntmps34
  go_wp2_with fail
  have A0_0 : At (World.alloc (World.alloc (World.alloc w (.cells #[.float .f64 (ofKey (a)), .float .f64 (ofKey (b))] 27)) (.cells #[.float .f64 (ofKey (c)), .float .f64 (ofKey (d))] 27)) (.cells #[.float .f64 (0), .float .f64 (0)] 27)) (w.heap.size) 0 (.float .f64 (ofKey (a))) := ⟨by simp [go_sem], by simp [go_sem]⟩
  have A0_1 : At (World.alloc (World.alloc (World.alloc w (.cells #[.float .f64 (ofKey (a)), .float .f64 (ofKey (b))] 27)) (.cells #[.float .f64 (ofKey (c)), .float .f64 (ofKey (d))] 27)) (.cells #[.float .f64 (0), .float .f64 (0)] 27)) (w.heap.size) 1 (.float .f64 (ofKey (b))) := ⟨by simp [go_sem], by simp [go_sem]⟩
  have A1_0 : At (World.alloc (World.alloc (World.alloc w (.cells #[.float .f64 (ofKey (a)), .float .f64 (ofKey (b))] 27)) (.cells #[.float .f64 (ofKey (c)), .float .f64 (ofKey (d))] 27)) (.cells #[.float .f64 (0), .float .f64 (0)] 27)) (w.heap.size + 1) 0 (.float .f64 (ofKey (c))) := ⟨by simp [go_sem], by simp [go_sem]⟩
  have A1_1 : At (World.alloc (World.alloc (World.alloc w (.cells #[.float .f64 (ofKey (a)), .float .f64 (ofKey (b))] 27)) (.cells #[.float .f64 (ofKey (c)), .float .f64 (ofKey (d))] 27)) (.cells #[.float .f64 (0), .float .f64 (0)] 27)) (w.heap.size + 1) 1 (.float .f64 (ofKey (d))) := ⟨by simp [go_sem], by simp [go_sem]⟩
  have A2_0 : At (World.alloc (World.alloc (World.alloc w (.cells #[.float .f64 (ofKey (a)), .float .f64 (ofKey (b))] 27)) (.cells #[.float .f64 (ofKey (c)), .float .f64 (ofKey (d))] 27)) (.cells #[.float .f64 (0), .float .f64 (0)] 27)) (w.heap.size + 1 + 1) 0 (.float .f64 (0)) := ⟨by simp [go_sem], by simp [go_sem]⟩
  have A2_1 : At (World.alloc (World.alloc (World.alloc w (.cells #[.float .f64 (ofKey (a)), .float .f64 (ofKey (b))] 27)) (.cells #[.float .f64 (ofKey (c)), .float .f64 (ofKey (d))] 27)) (.cells #[.float .f64 (0), .float .f64 (0)] 27)) (w.heap.size + 1 + 1) 1 (.float .f64 (0)) := ⟨by simp [go_sem], by simp [go_sem]⟩
  have k0_0 := cell_regrown A0_0.1
  have k0_1 := cell_regrown A0_1.1
  have k1_0 := cell_regrown A1_0.1
  have k1_1 := cell_regrown A1_1.1
  have k2_0 := cell_regrown A2_0.1
  have k2_1 := cell_regrown A2_1.1
  refine wp_region_below (by kernel_rfl) (by kernel_rfl) ?_
  repeat (go_big_quiet_step ((go_at_call 48; exact Calls.regrown_of (ivlzero_any _))))
  refine wpQuiet_nil (fun w1 hbw1 => ?_)
  clear k0_0 k0_1 k1_0 k1_1 k2_0 k2_1
  replace A0_0 := At.below A0_0 hbw1
  replace A0_1 := At.below A0_1 hbw1
  replace A1_0 := At.below A1_0 hbw1
  replace A1_1 := At.below A1_1 hbw1
  replace A2_0 := At.below A2_0 hbw1
  replace A2_1 := At.below A2_1 hbw1
  have B := below_alloc (below_alloc (below_alloc (hbw1)))
  clear hbw1
  have F0_0 := A0_0.1; have G0_0 := A0_0.2
  have F0_1 := A0_1.1; have G0_1 := A0_1.2
  have F1_0 := A1_0.1; have G1_0 := A1_0.2
  have F1_1 := A1_1.1; have G1_1 := A1_1.2
  have F2_0 := A2_0.1; have G2_0 := A2_0.2
  have F2_1 := A2_1.1; have G2_1 := A2_1.2
  have Z0 := A0_0.lt
  have Z1 := A1_0.lt
  have Z2 := A2_0.lt
  go_wp2_with fail
  have k0_0 := cell_regrown A0_0.1
  have k0_1 := cell_regrown A0_1.1
  have k1_0 := cell_regrown A1_0.1
  have k1_1 := cell_regrown A1_1.1
  have k2_0 := cell_regrown A2_0.1
  have k2_1 := cell_regrown A2_1.1
  refine wp_region_below (by kernel_rfl) (by kernel_rfl) ?_
  repeat (go_big_quiet_step ((go_at_call 48; exact Calls.regrown_of (ivlzero_any _))))
  refine wpQuiet_nil (fun w2 hbw2 => ?_)
  clear k0_0 k0_1 k1_0 k1_1 k2_0 k2_1
  clear F0_0 G0_0 F0_1 G0_1 F1_0 G1_0 F1_1 G1_1 F2_0 G2_0 F2_1 G2_1 Z0 Z1 Z2
  replace A0_0 := At.below (A0_0) hbw2
  replace A0_1 := At.below (A0_1) hbw2
  replace A1_0 := At.below (A1_0) hbw2
  replace A1_1 := At.below (A1_1) hbw2
  replace A2_0 := At.below (A2_0) hbw2
  replace A2_1 := At.below (A2_1) hbw2
  replace B := below_step B B.size (hbw2)
  clear hbw2
  have F0_0 := A0_0.1; have G0_0 := A0_0.2
  have F0_1 := A0_1.1; have G0_1 := A0_1.2
  have F1_0 := A1_0.1; have G1_0 := A1_0.2
  have F1_1 := A1_1.1; have G1_1 := A1_1.2
  have F2_0 := A2_0.1; have G2_0 := A2_0.2
  have F2_1 := A2_1.1; have G2_1 := A2_1.2
  have Z0 := A0_0.lt
  have Z1 := A1_0.lt
  have Z2 := A2_0.lt
  go_wp2_with fail
  refine (ivlzero_any _).mono ?_
  rintro e w3 ⟨rfl, hbw3⟩
  clear F0_0 G0_0 F0_1 G0_1 F1_0 G1_0 F1_1 G1_1 F2_0 G2_0 F2_1 G2_1 Z0 Z1 Z2
  replace A0_0 := At.below (A0_0) hbw3
  replace A0_1 := At.below (A0_1) hbw3
  replace A1_0 := At.below (A1_0) hbw3
  replace A1_1 := At.below (A1_1) hbw3
  replace A2_0 := At.below (A2_0) hbw3
  replace A2_1 := At.below (A2_1) hbw3
  replace B := below_step B B.size (hbw3)
  clear hbw3
  have F0_0 := A0_0.1; have G0_0 := A0_0.2
  have F0_1 := A0_1.1; have G0_1 := A0_1.2
  have F1_0 := A1_0.1; have G1_0 := A1_0.2
  have F1_1 := A1_1.1; have G1_1 := A1_1.2
  have F2_0 := A2_0.1; have G2_0 := A2_0.2
  have F2_1 := A2_1.1; have G2_1 := A2_1.2
  have Z0 := A0_0.lt
  have Z1 := A1_0.lt
  have Z2 := A2_0.lt
  go_wp2_with fail
  clear F0_0 G0_0 F0_1 G0_1 F1_0 G1_0 F1_1 G1_1 F2_0 G2_0 F2_1 G2_1 Z0 Z1 Z2
  replace A0_0 := At.set_blk (b' := w.heap.size + 1 + 1) (f' := 0) A0_0 (by first | omega | (have := B.size; omega)) (.float .f64 (0))
  replace A0_1 := At.set_blk (b' := w.heap.size + 1 + 1) (f' := 0) A0_1 (by first | omega | (have := B.size; omega)) (.float .f64 (0))
  replace A1_0 := At.set_blk (b' := w.heap.size + 1 + 1) (f' := 0) A1_0 (by first | omega | (have := B.size; omega)) (.float .f64 (0))
  replace A1_1 := At.set_blk (b' := w.heap.size + 1 + 1) (f' := 0) A1_1 (by first | omega | (have := B.size; omega)) (.float .f64 (0))
  replace A2_0 := At.set_same A2_0 (.float .f64 (0))
  replace A2_1 := At.set_off (f' := 0) A2_1 (by decide) (.float .f64 (0))
  replace A0_0 := At.set_blk (b' := w.heap.size + 1 + 1) (f' := 1) A0_0 (by first | omega | (have := B.size; omega)) (.float .f64 (0))
  replace A0_1 := At.set_blk (b' := w.heap.size + 1 + 1) (f' := 1) A0_1 (by first | omega | (have := B.size; omega)) (.float .f64 (0))
  replace A1_0 := At.set_blk (b' := w.heap.size + 1 + 1) (f' := 1) A1_0 (by first | omega | (have := B.size; omega)) (.float .f64 (0))
  replace A1_1 := At.set_blk (b' := w.heap.size + 1 + 1) (f' := 1) A1_1 (by first | omega | (have := B.size; omega)) (.float .f64 (0))
  replace A2_0 := At.set_off (f' := 1) A2_0 (by decide) (.float .f64 (0))
  replace A2_1 := At.set_same A2_1 (.float .f64 (0))
  have B' : Below w.heap.size w (World.setCell (World.setCell w3 ⟨w.heap.size + 1 + 1, 0, none⟩ (.float .f64 (0))) ⟨w.heap.size + 1 + 1, 1, none⟩ (.float .f64 (0))) := (Below.setCell (Below.setCell B (p := ⟨w.heap.size + 1 + 1, 0, none⟩) (by first | (show w.heap.size ≤ w.heap.size + 1 + 1; omega) | (have := B.size; show w.heap.size ≤ w.heap.size + 1 + 1; omega)) (.float .f64 (0))) (p := ⟨w.heap.size + 1 + 1, 1, none⟩) (by first | (show w.heap.size ≤ w.heap.size + 1 + 1; omega) | (have := B.size; show w.heap.size ≤ w.heap.size + 1 + 1; omega)) (.float .f64 (0)))
  clear B
  obtain ⟨wz, hwz⟩ : ∃ wz, wz = (World.setCell (World.setCell w3 ⟨w.heap.size + 1 + 1, 0, none⟩ (.float .f64 (0))) ⟨w.heap.size + 1 + 1, 1, none⟩ (.float .f64 (0))) := ⟨_, rfl⟩
  rw [← hwz]
  replace A0_0 := At.of A0_0 hwz
  replace A0_1 := At.of A0_1 hwz
  replace A1_0 := At.of A1_0 hwz
  replace A1_1 := At.of A1_1 hwz
  replace A2_0 := At.of A2_0 hwz
  replace A2_1 := At.of A2_1 hwz
  have B := below_of B' hwz
  clear B' hwz
  have F0_0 := A0_0.1; have G0_0 := A0_0.2
  have F0_1 := A0_1.1; have G0_1 := A0_1.2
  have F1_0 := A1_0.1; have G1_0 := A1_0.2
  have F1_1 := A1_1.1; have G1_1 := A1_1.2
  have F2_0 := A2_0.1; have G2_0 := A2_0.2
  have F2_1 := A2_1.1; have G2_1 := A2_1.2
  have Z0 := A0_0.lt
  have Z1 := A1_0.lt
  have Z2 := A2_0.lt
  refine bodyPost_ret (v := .agg #[.float .f64 (0), .float .f64 (0)]) (by simp [results, Try.results34, go_sem, F2_0, F2_1]) rfl ⟨rfl, ?_⟩
  exact B

set_option maxHeartbeats 1000000 in
theorem div_p2 (a b c d : Int) (ha : Rg a) (hb : Rg b) (hc : Rg c) (hd : Rg d) (h0 : 0 ≤ c) (h1 : 0 < d) (hAB : (decide (a = 0) && decide (b = 0)) = false) (h2 : 0 < c) (h3 : d < PI) (w : World) :
    Calls Try.prog 34 #[.agg #[.float .f64 (ofKey (a)), .float .f64 (ofKey (b))], .agg #[.float .f64 (ofKey (c)), .float .f64 (ofKey (d))]] w fun e w' => e = .returned (.agg #[.float .f64 (ofKey (loN 9 a b c d 4)), .float .f64 (ofKey (hiN 9 a b c d 4))]) ∧ Below w.heap.size w w' := by
  have he := eqiv
  have hP := PI_pos
  have q1 := ha.1; have q2 := ha.2; have q3 := hb.1; have q4 := hb.2; have q5 := hc.1; have q6 := hc.2; have q7 := hd.1; have q8 := hd.2
  have dD : decide (d = 0) = false := decide_eq_false (by omega)
  have EN := Lib.hid (fun w => ends_any 9 a b c d ha hb hc hd (fun x y _ h => .inr (.inr ⟨rfl, by omega⟩)) w)
  generalize loN 9 a b c d 4 = x at *
  generalize hiN 9 a b c d 4 = y at *
  go_enter Try.func34, Try.ntmps34
  go_wp2_with fail
  have A0_0 : At (World.alloc (World.alloc (World.alloc w (.cells #[.float .f64 (ofKey (a)), .float .f64 (ofKey (b))] 27)) (.cells #[.float .f64 (ofKey (c)), .float .f64 (ofKey (d))] 27)) (.cells #[.float .f64 (0), .float .f64 (0)] 27)) (w.heap.size) 0 (.float .f64 (ofKey (a))) := ⟨by simp [go_sem], by simp [go_sem]⟩
  have A0_1 : At (World.alloc (World.alloc (World.alloc w (.cells #[.float .f64 (ofKey (a)), .float .f64 (ofKey (b))] 27)) (.cells #[.float .f64 (ofKey (c)), .float .f64 (ofKey (d))] 27)) (.cells #[.float .f64 (0), .float .f64 (0)] 27)) (w.heap.size) 1 (.float .f64 (ofKey (b))) := ⟨by simp [go_sem], by simp [go_sem]⟩
  have A1_0 : At (World.alloc (World.alloc (World.alloc w (.cells #[.float .f64 (ofKey (a)), .float .f64 (ofKey (b))] 27)) (.cells #[.float .f64 (ofKey (c)), .float .f64 (ofKey (d))] 27)) (.cells #[.float .f64 (0), .float .f64 (0)] 27)) (w.heap.size + 1) 0 (.float .f64 (ofKey (c))) := ⟨by simp [go_sem], by simp [go_sem]⟩
  have A1_1 : At (World.alloc (World.alloc (World.alloc w (.cells #[.float .f64 (ofKey (a)), .float .f64 (ofKey (b))] 27)) (.cells #[.float .f64 (ofKey (c)), .float .f64 (ofKey (d))] 27)) (.cells #[.float .f64 (0), .float .f64 (0)] 27)) (w.heap.size + 1) 1 (.float .f64 (ofKey (d))) := ⟨by simp [go_sem], by simp [go_sem]⟩
  have A2_0 : At (World.alloc (World.alloc (World.alloc w (.cells #[.float .f64 (ofKey (a)), .float .f64 (ofKey (b))] 27)) (.cells #[.float .f64 (ofKey (c)), .float .f64 (ofKey (d))] 27)) (.cells #[.float .f64 (0), .float .f64 (0)] 27)) (w.heap.size + 1 + 1) 0 (.float .f64 (0)) := ⟨by simp [go_sem], by simp [go_sem]⟩
  have A2_1 : At (World.alloc (World.alloc (World.alloc w (.cells #[.float .f64 (ofKey (a)), .float .f64 (ofKey (b))] 27)) (.cells #[.float .f64 (ofKey (c)), .float .f64 (ofKey (d))] 27)) (.cells #[.float .f64 (0), .float .f64 (0)] 27)) (w.heap.size + 1 + 1) 1 (.float .f64 (0)) := ⟨by simp [go_sem], by simp [go_sem]⟩
  have k0_0 := cell_regrown A0_0.1
  have k0_1 := cell_regrown A0_1.1
  have k1_0 := cell_regrown A1_0.1
  have k1_1 := cell_regrown A1_1.1
  have k2_0 := cell_regrown A2_0.1
  have k2_1 := cell_regrown A2_1.1
  refine wp_region_below (by kernel_rfl) (by kernel_rfl) ?_
  repeat (go_big_quiet_step ((go_at_call 48; exact Calls.regrown_of (ivlzero_any _))))
  refine wpQuiet_nil (fun w1 hbw1 => ?_)
  clear k0_0 k0_1 k1_0 k1_1 k2_0 k2_1
  replace A0_0 := At.below A0_0 hbw1
  replace A0_1 := At.below A0_1 hbw1
  replace A1_0 := At.below A1_0 hbw1
  replace A1_1 := At.below A1_1 hbw1
  replace A2_0 := At.below A2_0 hbw1
  replace A2_1 := At.below A2_1 hbw1
  have B := below_alloc (below_alloc (below_alloc (hbw1)))
  clear hbw1
  have F0_0 := A0_0.1; have G0_0 := A0_0.2
  have F0_1 := A0_1.1; have G0_1 := A0_1.2
  have F1_0 := A1_0.1; have G1_0 := A1_0.2
  have F1_1 := A1_1.1; have G1_1 := A1_1.2
  have F2_0 := A2_0.1; have G2_0 := A2_0.2
  have F2_1 := A2_1.1; have G2_1 := A2_1.2
  have Z0 := A0_0.lt
  have Z1 := A1_0.lt
  have Z2 := A2_0.lt
  go_wp2_with fail
  have k0_0 := cell_regrown A0_0.1
  have k0_1 := cell_regrown A0_1.1
  have k1_0 := cell_regrown A1_0.1
  have k1_1 := cell_regrown A1_1.1
  have k2_0 := cell_regrown A2_0.1
  have k2_1 := cell_regrown A2_1.1
  refine wp_region_below (by kernel_rfl) (by kernel_rfl) ?_
  repeat (go_big_quiet_step ((go_at_call 48; exact Calls.regrown_of (ivlzero_any _))))
  refine wpQuiet_nil (fun w2 hbw2 => ?_)
  clear k0_0 k0_1 k1_0 k1_1 k2_0 k2_1
  clear F0_0 G0_0 F0_1 G0_1 F1_0 G1_0 F1_1 G1_1 F2_0 G2_0 F2_1 G2_1 Z0 Z1 Z2
  replace A0_0 := At.below (A0_0) hbw2
  replace A0_1 := At.below (A0_1) hbw2
  replace A1_0 := At.below (A1_0) hbw2
  replace A1_1 := At.below (A1_1) hbw2
  replace A2_0 := At.below (A2_0) hbw2
  replace A2_1 := At.below (A2_1) hbw2
  replace B := below_step B B.size (hbw2)
  clear hbw2
  have F0_0 := A0_0.1; have G0_0 := A0_0.2
  have F0_1 := A0_1.1; have G0_1 := A0_1.2
  have F1_0 := A1_0.1; have G1_0 := A1_0.2
  have F1_1 := A1_1.1; have G1_1 := A1_1.2
  have F2_0 := A2_0.1; have G2_0 := A2_0.2
  have F2_1 := A2_1.1; have G2_1 := A2_1.2
  have Z0 := A0_0.lt
  have Z1 := A1_0.lt
  have Z2 := A2_0.lt
  go_wp2_with fail
  have k0_0 := cell_regrown A0_0.1
  have k0_1 := cell_regrown A0_1.1
  have k1_0 := cell_regrown A1_0.1
  have k1_1 := cell_regrown A1_1.1
  have k2_0 := cell_regrown A2_0.1
  have k2_1 := cell_regrown A2_1.1
  refine wp_region_below (by kernel_rfl) (by kernel_rfl) ?_
  repeat (go_big_quiet_step ((go_at_call 24; exact quiet_same (ivlinf_any _))))
  refine wpQuiet_nil (fun w3 hbw3 => ?_)
  clear k0_0 k0_1 k1_0 k1_1 k2_0 k2_1
  clear F0_0 G0_0 F0_1 G0_1 F1_0 G1_0 F1_1 G1_1 F2_0 G2_0 F2_1 G2_1 Z0 Z1 Z2
  replace A0_0 := At.below (A0_0) hbw3
  replace A0_1 := At.below (A0_1) hbw3
  replace A1_0 := At.below (A1_0) hbw3
  replace A1_1 := At.below (A1_1) hbw3
  replace A2_0 := At.below (A2_0) hbw3
  replace A2_1 := At.below (A2_1) hbw3
  replace B := below_step B B.size (hbw3)
  clear hbw3
  have F0_0 := A0_0.1; have G0_0 := A0_0.2
  have F0_1 := A0_1.1; have G0_1 := A0_1.2
  have F1_0 := A1_0.1; have G1_0 := A1_0.2
  have F1_1 := A1_1.1; have G1_1 := A1_1.2
  have F2_0 := A2_0.1; have G2_0 := A2_0.2
  have F2_1 := A2_1.1; have G2_1 := A2_1.2
  have Z0 := A0_0.lt
  have Z1 := A1_0.lt
  have Z2 := A2_0.lt
  go_wp2_with fail
  refine (EN.out _).mono ?_
  rintro e w4 ⟨rfl, hbw4⟩
  clear F0_0 G0_0 F0_1 G0_1 F1_0 G1_0 F1_1 G1_1 F2_0 G2_0 F2_1 G2_1 Z0 Z1 Z2
  replace A0_0 := At.below (A0_0) hbw4
  replace A0_1 := At.below (A0_1) hbw4
  replace A1_0 := At.below (A1_0) hbw4
  replace A1_1 := At.below (A1_1) hbw4
  replace A2_0 := At.below (A2_0) hbw4
  replace A2_1 := At.below (A2_1) hbw4
  replace B := below_step B B.size (hbw4)
  clear hbw4
  have F0_0 := A0_0.1; have G0_0 := A0_0.2
  have F0_1 := A0_1.1; have G0_1 := A0_1.2
  have F1_0 := A1_0.1; have G1_0 := A1_0.2
  have F1_1 := A1_1.1; have G1_1 := A1_1.2
  have F2_0 := A2_0.1; have G2_0 := A2_0.2
  have F2_1 := A2_1.1; have G2_1 := A2_1.2
  have Z0 := A0_0.lt
  have Z1 := A1_0.lt
  have Z2 := A2_0.lt
  go_wp2_with fail
  clear F0_0 G0_0 F0_1 G0_1 F1_0 G1_0 F1_1 G1_1 F2_0 G2_0 F2_1 G2_1 Z0 Z1 Z2
  replace A0_0 := At.set_blk (b' := w.heap.size + 1 + 1) (f' := 0) A0_0 (by first | omega | (have := B.size; omega)) (.float .f64 (ofKey (x)))
  replace A0_1 := At.set_blk (b' := w.heap.size + 1 + 1) (f' := 0) A0_1 (by first | omega | (have := B.size; omega)) (.float .f64 (ofKey (x)))
  replace A1_0 := At.set_blk (b' := w.heap.size + 1 + 1) (f' := 0) A1_0 (by first | omega | (have := B.size; omega)) (.float .f64 (ofKey (x)))
  replace A1_1 := At.set_blk (b' := w.heap.size + 1 + 1) (f' := 0) A1_1 (by first | omega | (have := B.size; omega)) (.float .f64 (ofKey (x)))
  replace A2_0 := At.set_same A2_0 (.float .f64 (ofKey (x)))
  replace A2_1 := At.set_off (f' := 0) A2_1 (by decide) (.float .f64 (ofKey (x)))
  replace A0_0 := At.set_blk (b' := w.heap.size + 1 + 1) (f' := 1) A0_0 (by first | omega | (have := B.size; omega)) (.float .f64 (ofKey (y)))
  replace A0_1 := At.set_blk (b' := w.heap.size + 1 + 1) (f' := 1) A0_1 (by first | omega | (have := B.size; omega)) (.float .f64 (ofKey (y)))
  replace A1_0 := At.set_blk (b' := w.heap.size + 1 + 1) (f' := 1) A1_0 (by first | omega | (have := B.size; omega)) (.float .f64 (ofKey (y)))
  replace A1_1 := At.set_blk (b' := w.heap.size + 1 + 1) (f' := 1) A1_1 (by first | omega | (have := B.size; omega)) (.float .f64 (ofKey (y)))
  replace A2_0 := At.set_off (f' := 1) A2_0 (by decide) (.float .f64 (ofKey (y)))
  replace A2_1 := At.set_same A2_1 (.float .f64 (ofKey (y)))
  have B' : Below w.heap.size w (World.setCell (World.setCell w4 ⟨w.heap.size + 1 + 1, 0, none⟩ (.float .f64 (ofKey (x)))) ⟨w.heap.size + 1 + 1, 1, none⟩ (.float .f64 (ofKey (y)))) := (Below.setCell (Below.setCell B (p := ⟨w.heap.size + 1 + 1, 0, none⟩) (by first | (show w.heap.size ≤ w.heap.size + 1 + 1; omega) | (have := B.size; show w.heap.size ≤ w.heap.size + 1 + 1; omega)) (.float .f64 (ofKey (x)))) (p := ⟨w.heap.size + 1 + 1, 1, none⟩) (by first | (show w.heap.size ≤ w.heap.size + 1 + 1; omega) | (have := B.size; show w.heap.size ≤ w.heap.size + 1 + 1; omega)) (.float .f64 (ofKey (y))))
  clear B
  obtain ⟨wz, hwz⟩ : ∃ wz, wz = (World.setCell (World.setCell w4 ⟨w.heap.size + 1 + 1, 0, none⟩ (.float .f64 (ofKey (x)))) ⟨w.heap.size + 1 + 1, 1, none⟩ (.float .f64 (ofKey (y)))) := ⟨_, rfl⟩
  rw [← hwz]
  replace A0_0 := At.of A0_0 hwz
  replace A0_1 := At.of A0_1 hwz
  replace A1_0 := At.of A1_0 hwz
  replace A1_1 := At.of A1_1 hwz
  replace A2_0 := At.of A2_0 hwz
  replace A2_1 := At.of A2_1 hwz
  have B := below_of B' hwz
  clear B' hwz
  have F0_0 := A0_0.1; have G0_0 := A0_0.2
  have F0_1 := A0_1.1; have G0_1 := A0_1.2
  have F1_0 := A1_0.1; have G1_0 := A1_0.2
  have F1_1 := A1_1.1; have G1_1 := A1_1.2
  have F2_0 := A2_0.1; have G2_0 := A2_0.2
  have F2_1 := A2_1.1; have G2_1 := A2_1.2
  have Z0 := A0_0.lt
  have Z1 := A1_0.lt
  have Z2 := A2_0.lt
  refine bodyPost_ret (v := .agg #[.float .f64 (ofKey (x)), .float .f64 (ofKey (y))]) (by simp [results, Try.results34, go_sem, F2_0, F2_1]) rfl ⟨rfl, ?_⟩
  exact B

set_option maxHeartbeats 1000000 in
theorem div_p3zPN (a b c d : Int) (ha : Rg a) (hb : Rg b) (hc : Rg c) (hd : Rg d) (h0 : 0 ≤ c) (h1 : 0 < d) (hAB : (decide (a = 0) && decide (b = 0)) = false) (h2 : c = 0) (h4 : 0 ≤ a) (h5 : b ≤ 0) (w : World) :
    Calls Try.prog 34 #[.agg #[.float .f64 (ofKey (a)), .float .f64 (ofKey (b))], .agg #[.float .f64 (ofKey (c)), .float .f64 (ofKey (d))]] w fun e w' => e = .returned (.agg #[.float .f64 (ofKey (endK 9 a d false)), .float .f64 (ofKey (endK 9 b d true))]) ∧ Below w.heap.size w w' := by
  have he := eqiv
  have hP := PI_pos
  have q1 := ha.1; have q2 := ha.2; have q3 := hb.1; have q4 := hb.2; have q5 := hc.1; have q6 := hc.2; have q7 := hd.1; have q8 := hd.2
  have dD : decide (d = 0) = false := decide_eq_false (by omega)
  have dp : decide (0 < c) = false := decide_eq_false (by omega)
  have EL := Lib.hid (fun w => ivlend_any 9 a d false ha hd (.inr (.inr ⟨rfl, by omega⟩)) w)
  generalize endK 9 a d false = x at *
  have EH := Lib.hid (fun w => ivlend_any 9 b d true hb hd (.inr (.inr ⟨rfl, by omega⟩)) w)
  generalize endK 9 b d true = y at *
  clear h2
  go_enter Try.func34, Try.ntmps34
  go_wp2_with fail
  have A0_0 : At (World.alloc (World.alloc (World.alloc w (.cells #[.float .f64 (ofKey (a)), .float .f64 (ofKey (b))] 27)) (.cells #[.float .f64 (ofKey (c)), .float .f64 (ofKey (d))] 27)) (.cells #[.float .f64 (0), .float .f64 (0)] 27)) (w.heap.size) 0 (.float .f64 (ofKey (a))) := ⟨by simp [go_sem], by simp [go_sem]⟩
  have A0_1 : At (World.alloc (World.alloc (World.alloc w (.cells #[.float .f64 (ofKey (a)), .float .f64 (ofKey (b))] 27)) (.cells #[.float .f64 (ofKey (c)), .float .f64 (ofKey (d))] 27)) (.cells #[.float .f64 (0), .float .f64 (0)] 27)) (w.heap.size) 1 (.float .f64 (ofKey (b))) := ⟨by simp [go_sem], by simp [go_sem]⟩
  have A1_0 : At (World.alloc (World.alloc (World.alloc w (.cells #[.float .f64 (ofKey (a)), .float .f64 (ofKey (b))] 27)) (.cells #[.float .f64 (ofKey (c)), .float .f64 (ofKey (d))] 27)) (.cells #[.float .f64 (0), .float .f64 (0)] 27)) (w.heap.size + 1) 0 (.float .f64 (ofKey (c))) := ⟨by simp [go_sem], by simp [go_sem]⟩
  have A1_1 : At (World.alloc (World.alloc (World.alloc w (.cells #[.float .f64 (ofKey (a)), .float .f64 (ofKey (b))] 27)) (.cells #[.float .f64 (ofKey (c)), .float .f64 (ofKey (d))] 27)) (.cells #[.float .f64 (0), .float .f64 (0)] 27)) (w.heap.size + 1) 1 (.float .f64 (ofKey (d))) := ⟨by simp [go_sem], by simp [go_sem]⟩
  have A2_0 : At (World.alloc (World.alloc (World.alloc w (.cells #[.float .f64 (ofKey (a)), .float .f64 (ofKey (b))] 27)) (.cells #[.float .f64 (ofKey (c)), .float .f64 (ofKey (d))] 27)) (.cells #[.float .f64 (0), .float .f64 (0)] 27)) (w.heap.size + 1 + 1) 0 (.float .f64 (0)) := ⟨by simp [go_sem], by simp [go_sem]⟩
  have A2_1 : At (World.alloc (World.alloc (World.alloc w (.cells #[.float .f64 (ofKey (a)), .float .f64 (ofKey (b))] 27)) (.cells #[.float .f64 (ofKey (c)), .float .f64 (ofKey (d))] 27)) (.cells #[.float .f64 (0), .float .f64 (0)] 27)) (w.heap.size + 1 + 1) 1 (.float .f64 (0)) := ⟨by simp [go_sem], by simp [go_sem]⟩
  have k0_0 := cell_regrown A0_0.1
  have k0_1 := cell_regrown A0_1.1
  have k1_0 := cell_regrown A1_0.1
  have k1_1 := cell_regrown A1_1.1
  have k2_0 := cell_regrown A2_0.1
  have k2_1 := cell_regrown A2_1.1
  refine wp_region_below (by kernel_rfl) (by kernel_rfl) ?_
  repeat (go_big_quiet_step ((go_at_call 48; exact Calls.regrown_of (ivlzero_any _))))
  refine wpQuiet_nil (fun w1 hbw1 => ?_)
  clear k0_0 k0_1 k1_0 k1_1 k2_0 k2_1
  replace A0_0 := At.below A0_0 hbw1
  replace A0_1 := At.below A0_1 hbw1
  replace A1_0 := At.below A1_0 hbw1
  replace A1_1 := At.below A1_1 hbw1
  replace A2_0 := At.below A2_0 hbw1
  replace A2_1 := At.below A2_1 hbw1
  have B := below_alloc (below_alloc (below_alloc (hbw1)))
  clear hbw1
  have F0_0 := A0_0.1; have G0_0 := A0_0.2
  have F0_1 := A0_1.1; have G0_1 := A0_1.2
  have F1_0 := A1_0.1; have G1_0 := A1_0.2
  have F1_1 := A1_1.1; have G1_1 := A1_1.2
  have F2_0 := A2_0.1; have G2_0 := A2_0.2
  have F2_1 := A2_1.1; have G2_1 := A2_1.2
  have Z0 := A0_0.lt
  have Z1 := A1_0.lt
  have Z2 := A2_0.lt
  go_wp2_with fail
  have k0_0 := cell_regrown A0_0.1
  have k0_1 := cell_regrown A0_1.1
  have k1_0 := cell_regrown A1_0.1
  have k1_1 := cell_regrown A1_1.1
  have k2_0 := cell_regrown A2_0.1
  have k2_1 := cell_regrown A2_1.1
  refine wp_region_below (by kernel_rfl) (by kernel_rfl) ?_
  repeat (go_big_quiet_step ((go_at_call 48; exact Calls.regrown_of (ivlzero_any _))))
  refine wpQuiet_nil (fun w2 hbw2 => ?_)
  clear k0_0 k0_1 k1_0 k1_1 k2_0 k2_1
  clear F0_0 G0_0 F0_1 G0_1 F1_0 G1_0 F1_1 G1_1 F2_0 G2_0 F2_1 G2_1 Z0 Z1 Z2
  replace A0_0 := At.below (A0_0) hbw2
  replace A0_1 := At.below (A0_1) hbw2
  replace A1_0 := At.below (A1_0) hbw2
  replace A1_1 := At.below (A1_1) hbw2
  replace A2_0 := At.below (A2_0) hbw2
  replace A2_1 := At.below (A2_1) hbw2
  replace B := below_step B B.size (hbw2)
  clear hbw2
  have F0_0 := A0_0.1; have G0_0 := A0_0.2
  have F0_1 := A0_1.1; have G0_1 := A0_1.2
  have F1_0 := A1_0.1; have G1_0 := A1_0.2
  have F1_1 := A1_1.1; have G1_1 := A1_1.2
  have F2_0 := A2_0.1; have G2_0 := A2_0.2
  have F2_1 := A2_1.1; have G2_1 := A2_1.2
  have Z0 := A0_0.lt
  have Z1 := A1_0.lt
  have Z2 := A2_0.lt
  go_wp2_with fail
  have k0_0 := cell_regrown A0_0.1
  have k0_1 := cell_regrown A0_1.1
  have k1_0 := cell_regrown A1_0.1
  have k1_1 := cell_regrown A1_1.1
  have k2_0 := cell_regrown A2_0.1
  have k2_1 := cell_regrown A2_1.1
  refine wp_region_below (by kernel_rfl) (by kernel_rfl) ?_
  repeat (go_big_quiet_step ((go_at_call 24; exact quiet_same (ivlinf_any _))))
  refine wpQuiet_nil (fun w3 hbw3 => ?_)
  clear k0_0 k0_1 k1_0 k1_1 k2_0 k2_1
  clear F0_0 G0_0 F0_1 G0_1 F1_0 G1_0 F1_1 G1_1 F2_0 G2_0 F2_1 G2_1 Z0 Z1 Z2
  replace A0_0 := At.below (A0_0) hbw3
  replace A0_1 := At.below (A0_1) hbw3
  replace A1_0 := At.below (A1_0) hbw3
  replace A1_1 := At.below (A1_1) hbw3
  replace A2_0 := At.below (A2_0) hbw3
  replace A2_1 := At.below (A2_1) hbw3
  replace B := below_step B B.size (hbw3)
  clear hbw3
  have F0_0 := A0_0.1; have G0_0 := A0_0.2
  have F0_1 := A0_1.1; have G0_1 := A0_1.2
  have F1_0 := A1_0.1; have G1_0 := A1_0.2
  have F1_1 := A1_1.1; have G1_1 := A1_1.2
  have F2_0 := A2_0.1; have G2_0 := A2_0.2
  have F2_1 := A2_1.1; have G2_1 := A2_1.2
  have Z0 := A0_0.lt
  have Z1 := A1_0.lt
  have Z2 := A2_0.lt
  go_wp2_with (go_at_call 24; refine (ivlinf_any _).mono ?_; rintro e w' ⟨rfl, rfl⟩)
  clear F0_0 G0_0 F0_1 G0_1 F1_0 G1_0 F1_1 G1_1 F2_0 G2_0 F2_1 G2_1 Z0 Z1 Z2
  have n1 : w.heap.size < w3.heap.size := by simpa only [World.size_setCell] using At.lt A0_0
  have n2 : w.heap.size + 1 < w3.heap.size := by simpa only [World.size_setCell] using At.lt A1_0
  have n3 : w.heap.size + 1 + 1 < w3.heap.size := by simpa only [World.size_setCell] using At.lt A2_0
  replace A0_0 : At (World.alloc w3 (.cells #[.float .f64 (ofKey (-PI)), .float .f64 (ofKey (PI))] 27)) _ _ _ := At.alloc (A0_0)
  replace A0_1 : At (World.alloc w3 (.cells #[.float .f64 (ofKey (-PI)), .float .f64 (ofKey (PI))] 27)) _ _ _ := At.alloc (A0_1)
  replace A1_0 : At (World.alloc w3 (.cells #[.float .f64 (ofKey (-PI)), .float .f64 (ofKey (PI))] 27)) _ _ _ := At.alloc (A1_0)
  replace A1_1 : At (World.alloc w3 (.cells #[.float .f64 (ofKey (-PI)), .float .f64 (ofKey (PI))] 27)) _ _ _ := At.alloc (A1_1)
  replace A2_0 : At (World.alloc w3 (.cells #[.float .f64 (ofKey (-PI)), .float .f64 (ofKey (PI))] 27)) _ _ _ := At.alloc (A2_0)
  replace A2_1 : At (World.alloc w3 (.cells #[.float .f64 (ofKey (-PI)), .float .f64 (ofKey (PI))] 27)) _ _ _ := At.alloc (A2_1)
  have A3_0 : At (World.alloc w3 (.cells #[.float .f64 (ofKey (-PI)), .float .f64 (ofKey (PI))] 27)) (w3.heap.size) 0 (.float .f64 (ofKey (-PI))) := ⟨by simp [go_sem], by simp [go_sem]⟩
  have A3_1 : At (World.alloc w3 (.cells #[.float .f64 (ofKey (-PI)), .float .f64 (ofKey (PI))] 27)) (w3.heap.size) 1 (.float .f64 (ofKey (PI))) := ⟨by simp [go_sem], by simp [go_sem]⟩
  have B' : Below w.heap.size w (World.alloc w3 (.cells #[.float .f64 (ofKey (-PI)), .float .f64 (ofKey (PI))] 27)) := (Below.alloc B (by first | exact B.size | (simp only [World.size_setCell, World.size_alloc]; have := B.size; omega)) _)
  clear B
  obtain ⟨w4, hw4⟩ : ∃ w4, w4 = (World.alloc w3 (.cells #[.float .f64 (ofKey (-PI)), .float .f64 (ofKey (PI))] 27)) := ⟨_, rfl⟩
  rw [← hw4]
  replace A0_0 := At.of A0_0 hw4
  replace A0_1 := At.of A0_1 hw4
  replace A1_0 := At.of A1_0 hw4
  replace A1_1 := At.of A1_1 hw4
  replace A2_0 := At.of A2_0 hw4
  replace A2_1 := At.of A2_1 hw4
  replace A3_0 := At.of A3_0 hw4
  replace A3_1 := At.of A3_1 hw4
  have B := below_of B' hw4
  clear B' hw4
  have F0_0 := A0_0.1; have G0_0 := A0_0.2
  have F0_1 := A0_1.1; have G0_1 := A0_1.2
  have F1_0 := A1_0.1; have G1_0 := A1_0.2
  have F1_1 := A1_1.1; have G1_1 := A1_1.2
  have F2_0 := A2_0.1; have G2_0 := A2_0.2
  have F2_1 := A2_1.1; have G2_1 := A2_1.2
  have F3_0 := A3_0.1; have G3_0 := A3_0.2
  have F3_1 := A3_1.1; have G3_1 := A3_1.2
  have Z0 := A0_0.lt
  have Z1 := A1_0.lt
  have Z2 := A2_0.lt
  have Z3 := A3_0.lt
  refine (EL.out _).mono ?_
  rintro e w5 ⟨rfl, hbw5⟩
  clear F0_0 G0_0 F0_1 G0_1 F1_0 G1_0 F1_1 G1_1 F2_0 G2_0 F2_1 G2_1 F3_0 G3_0 F3_1 G3_1 Z0 Z1 Z2 Z3
  replace A0_0 := At.below (A0_0) hbw5
  replace A0_1 := At.below (A0_1) hbw5
  replace A1_0 := At.below (A1_0) hbw5
  replace A1_1 := At.below (A1_1) hbw5
  replace A2_0 := At.below (A2_0) hbw5
  replace A2_1 := At.below (A2_1) hbw5
  replace A3_0 := At.below (A3_0) hbw5
  replace A3_1 := At.below (A3_1) hbw5
  replace B := below_step B B.size (hbw5)
  clear hbw5
  have F0_0 := A0_0.1; have G0_0 := A0_0.2
  have F0_1 := A0_1.1; have G0_1 := A0_1.2
  have F1_0 := A1_0.1; have G1_0 := A1_0.2
  have F1_1 := A1_1.1; have G1_1 := A1_1.2
  have F2_0 := A2_0.1; have G2_0 := A2_0.2
  have F2_1 := A2_1.1; have G2_1 := A2_1.2
  have F3_0 := A3_0.1; have G3_0 := A3_0.2
  have F3_1 := A3_1.1; have G3_1 := A3_1.2
  have Z0 := A0_0.lt
  have Z1 := A1_0.lt
  have Z2 := A2_0.lt
  have Z3 := A3_0.lt
  go_wp2_with fail
  clear F0_0 G0_0 F0_1 G0_1 F1_0 G1_0 F1_1 G1_1 F2_0 G2_0 F2_1 G2_1 F3_0 G3_0 F3_1 G3_1 Z0 Z1 Z2 Z3
  replace A0_0 := At.set_blk (b' := w3.heap.size) (f' := 0) A0_0 (by first | omega | (have := B.size; omega)) (.float .f64 (ofKey (x)))
  replace A0_1 := At.set_blk (b' := w3.heap.size) (f' := 0) A0_1 (by first | omega | (have := B.size; omega)) (.float .f64 (ofKey (x)))
  replace A1_0 := At.set_blk (b' := w3.heap.size) (f' := 0) A1_0 (by first | omega | (have := B.size; omega)) (.float .f64 (ofKey (x)))
  replace A1_1 := At.set_blk (b' := w3.heap.size) (f' := 0) A1_1 (by first | omega | (have := B.size; omega)) (.float .f64 (ofKey (x)))
  replace A2_0 := At.set_blk (b' := w3.heap.size) (f' := 0) A2_0 (by first | omega | (have := B.size; omega)) (.float .f64 (ofKey (x)))
  replace A2_1 := At.set_blk (b' := w3.heap.size) (f' := 0) A2_1 (by first | omega | (have := B.size; omega)) (.float .f64 (ofKey (x)))
  replace A3_0 := At.set_same A3_0 (.float .f64 (ofKey (x)))
  replace A3_1 := At.set_off (f' := 0) A3_1 (by decide) (.float .f64 (ofKey (x)))
  have B' : Below w.heap.size w (World.setCell w5 ⟨w3.heap.size, 0, none⟩ (.float .f64 (ofKey (x)))) := (Below.setCell B (p := ⟨w3.heap.size, 0, none⟩) (by first | (show w.heap.size ≤ w3.heap.size; omega) | (have := B.size; show w.heap.size ≤ w3.heap.size; omega)) (.float .f64 (ofKey (x))))
  clear B
  obtain ⟨w6, hw6⟩ : ∃ w6, w6 = (World.setCell w5 ⟨w3.heap.size, 0, none⟩ (.float .f64 (ofKey (x)))) := ⟨_, rfl⟩
  rw [← hw6]
  replace A0_0 := At.of A0_0 hw6
  replace A0_1 := At.of A0_1 hw6
  replace A1_0 := At.of A1_0 hw6
  replace A1_1 := At.of A1_1 hw6
  replace A2_0 := At.of A2_0 hw6
  replace A2_1 := At.of A2_1 hw6
  replace A3_0 := At.of A3_0 hw6
  replace A3_1 := At.of A3_1 hw6
  have B := below_of B' hw6
  clear B' hw6
  have F0_0 := A0_0.1; have G0_0 := A0_0.2
  have F0_1 := A0_1.1; have G0_1 := A0_1.2
  have F1_0 := A1_0.1; have G1_0 := A1_0.2
  have F1_1 := A1_1.1; have G1_1 := A1_1.2
  have F2_0 := A2_0.1; have G2_0 := A2_0.2
  have F2_1 := A2_1.1; have G2_1 := A2_1.2
  have F3_0 := A3_0.1; have G3_0 := A3_0.2
  have F3_1 := A3_1.1; have G3_1 := A3_1.2
  have Z0 := A0_0.lt
  have Z1 := A1_0.lt
  have Z2 := A2_0.lt
  have Z3 := A3_0.lt
  refine (EH.out _).mono ?_
  rintro e w7 ⟨rfl, hbw7⟩
  clear F0_0 G0_0 F0_1 G0_1 F1_0 G1_0 F1_1 G1_1 F2_0 G2_0 F2_1 G2_1 F3_0 G3_0 F3_1 G3_1 Z0 Z1 Z2 Z3
  replace A0_0 := At.below (A0_0) hbw7
  replace A0_1 := At.below (A0_1) hbw7
  replace A1_0 := At.below (A1_0) hbw7
  replace A1_1 := At.below (A1_1) hbw7
  replace A2_0 := At.below (A2_0) hbw7
  replace A2_1 := At.below (A2_1) hbw7
  replace A3_0 := At.below (A3_0) hbw7
  replace A3_1 := At.below (A3_1) hbw7
  replace B := below_step B B.size (hbw7)
  clear hbw7
  have F0_0 := A0_0.1; have G0_0 := A0_0.2
  have F0_1 := A0_1.1; have G0_1 := A0_1.2
  have F1_0 := A1_0.1; have G1_0 := A1_0.2
  have F1_1 := A1_1.1; have G1_1 := A1_1.2
  have F2_0 := A2_0.1; have G2_0 := A2_0.2
  have F2_1 := A2_1.1; have G2_1 := A2_1.2
  have F3_0 := A3_0.1; have G3_0 := A3_0.2
  have F3_1 := A3_1.1; have G3_1 := A3_1.2
  have Z0 := A0_0.lt
  have Z1 := A1_0.lt
  have Z2 := A2_0.lt
  have Z3 := A3_0.lt
  go_wp2_with fail
  clear F0_0 G0_0 F0_1 G0_1 F1_0 G1_0 F1_1 G1_1 F2_0 G2_0 F2_1 G2_1 F3_0 G3_0 F3_1 G3_1 Z0 Z1 Z2 Z3
  replace A0_0 := At.set_blk (b' := w3.heap.size) (f' := 1) A0_0 (by first | omega | (have := B.size; omega)) (.float .f64 (ofKey (y)))
  replace A0_1 := At.set_blk (b' := w3.heap.size) (f' := 1) A0_1 (by first | omega | (have := B.size; omega)) (.float .f64 (ofKey (y)))
  replace A1_0 := At.set_blk (b' := w3.heap.size) (f' := 1) A1_0 (by first | omega | (have := B.size; omega)) (.float .f64 (ofKey (y)))
  replace A1_1 := At.set_blk (b' := w3.heap.size) (f' := 1) A1_1 (by first | omega | (have := B.size; omega)) (.float .f64 (ofKey (y)))
  replace A2_0 := At.set_blk (b' := w3.heap.size) (f' := 1) A2_0 (by first | omega | (have := B.size; omega)) (.float .f64 (ofKey (y)))
  replace A2_1 := At.set_blk (b' := w3.heap.size) (f' := 1) A2_1 (by first | omega | (have := B.size; omega)) (.float .f64 (ofKey (y)))
  replace A3_0 := At.set_off (f' := 1) A3_0 (by decide) (.float .f64 (ofKey (y)))
  replace A3_1 := At.set_same A3_1 (.float .f64 (ofKey (y)))
  replace A0_0 := At.set_blk (b' := w.heap.size + 1 + 1) (f' := 0) A0_0 (by first | omega | (have := B.size; omega)) (.float .f64 (ofKey (x)))
  replace A0_1 := At.set_blk (b' := w.heap.size + 1 + 1) (f' := 0) A0_1 (by first | omega | (have := B.size; omega)) (.float .f64 (ofKey (x)))
  replace A1_0 := At.set_blk (b' := w.heap.size + 1 + 1) (f' := 0) A1_0 (by first | omega | (have := B.size; omega)) (.float .f64 (ofKey (x)))
  replace A1_1 := At.set_blk (b' := w.heap.size + 1 + 1) (f' := 0) A1_1 (by first | omega | (have := B.size; omega)) (.float .f64 (ofKey (x)))
  replace A2_0 := At.set_same A2_0 (.float .f64 (ofKey (x)))
  replace A2_1 := At.set_off (f' := 0) A2_1 (by decide) (.float .f64 (ofKey (x)))
  replace A3_0 := At.set_blk (b' := w.heap.size + 1 + 1) (f' := 0) A3_0 (by first | omega | (have := B.size; omega)) (.float .f64 (ofKey (x)))
  replace A3_1 := At.set_blk (b' := w.heap.size + 1 + 1) (f' := 0) A3_1 (by first | omega | (have := B.size; omega)) (.float .f64 (ofKey (x)))
  replace A0_0 := At.set_blk (b' := w.heap.size + 1 + 1) (f' := 1) A0_0 (by first | omega | (have := B.size; omega)) (.float .f64 (ofKey (y)))
  replace A0_1 := At.set_blk (b' := w.heap.size + 1 + 1) (f' := 1) A0_1 (by first | omega | (have := B.size; omega)) (.float .f64 (ofKey (y)))
  replace A1_0 := At.set_blk (b' := w.heap.size + 1 + 1) (f' := 1) A1_0 (by first | omega | (have := B.size; omega)) (.float .f64 (ofKey (y)))
  replace A1_1 := At.set_blk (b' := w.heap.size + 1 + 1) (f' := 1) A1_1 (by first | omega | (have := B.size; omega)) (.float .f64 (ofKey (y)))
  replace A2_0 := At.set_off (f' := 1) A2_0 (by decide) (.float .f64 (ofKey (y)))
  replace A2_1 := At.set_same A2_1 (.float .f64 (ofKey (y)))
  replace A3_0 := At.set_blk (b' := w.heap.size + 1 + 1) (f' := 1) A3_0 (by first | omega | (have := B.size; omega)) (.float .f64 (ofKey (y)))
  replace A3_1 := At.set_blk (b' := w.heap.size + 1 + 1) (f' := 1) A3_1 (by first | omega | (have := B.size; omega)) (.float .f64 (ofKey (y)))
  have B' : Below w.heap.size w (World.setCell (World.setCell (World.setCell w7 ⟨w3.heap.size, 1, none⟩ (.float .f64 (ofKey (y)))) ⟨w.heap.size + 1 + 1, 0, none⟩ (.float .f64 (ofKey (x)))) ⟨w.heap.size + 1 + 1, 1, none⟩ (.float .f64 (ofKey (y)))) := (Below.setCell (Below.setCell (Below.setCell B (p := ⟨w3.heap.size, 1, none⟩) (by first | (show w.heap.size ≤ w3.heap.size; omega) | (have := B.size; show w.heap.size ≤ w3.heap.size; omega)) (.float .f64 (ofKey (y)))) (p := ⟨w.heap.size + 1 + 1, 0, none⟩) (by first | (show w.heap.size ≤ w.heap.size + 1 + 1; omega) | (have := B.size; show w.heap.size ≤ w.heap.size + 1 + 1; omega)) (.float .f64 (ofKey (x)))) (p := ⟨w.heap.size + 1 + 1, 1, none⟩) (by first | (show w.heap.size ≤ w.heap.size + 1 + 1; omega) | (have := B.size; show w.heap.size ≤ w.heap.size + 1 + 1; omega)) (.float .f64 (ofKey (y))))
  clear B
  obtain ⟨wz, hwz⟩ : ∃ wz, wz = (World.setCell (World.setCell (World.setCell w7 ⟨w3.heap.size, 1, none⟩ (.float .f64 (ofKey (y)))) ⟨w.heap.size + 1 + 1, 0, none⟩ (.float .f64 (ofKey (x)))) ⟨w.heap.size + 1 + 1, 1, none⟩ (.float .f64 (ofKey (y)))) := ⟨_, rfl⟩
  rw [← hwz]
  replace A0_0 := At.of A0_0 hwz
  replace A0_1 := At.of A0_1 hwz
  replace A1_0 := At.of A1_0 hwz
  replace A1_1 := At.of A1_1 hwz
  replace A2_0 := At.of A2_0 hwz
  replace A2_1 := At.of A2_1 hwz
  replace A3_0 := At.of A3_0 hwz
  replace A3_1 := At.of A3_1 hwz
  have B := below_of B' hwz
  clear B' hwz
  have F0_0 := A0_0.1; have G0_0 := A0_0.2
  have F0_1 := A0_1.1; have G0_1 := A0_1.2
  have F1_0 := A1_0.1; have G1_0 := A1_0.2
  have F1_1 := A1_1.1; have G1_1 := A1_1.2
  have F2_0 := A2_0.1; have G2_0 := A2_0.2
  have F2_1 := A2_1.1; have G2_1 := A2_1.2
  have F3_0 := A3_0.1; have G3_0 := A3_0.2
  have F3_1 := A3_1.1; have G3_1 := A3_1.2
  have Z0 := A0_0.lt
  have Z1 := A1_0.lt
  have Z2 := A2_0.lt
  have Z3 := A3_0.lt
  refine bodyPost_ret (v := .agg #[.float .f64 (ofKey (x)), .float .f64 (ofKey (y))]) (by simp [results, Try.results34, go_sem, F2_0, F2_1]) rfl ⟨rfl, ?_⟩
  exact B

set_option maxHeartbeats 1000000 in
theorem div_p3zPP (a b c d : Int) (ha : Rg a) (hb : Rg b) (hc : Rg c) (hd : Rg d) (h0 : 0 ≤ c) (h1 : 0 < d) (hAB : (decide (a = 0) && decide (b = 0)) = false) (h2 : c = 0) (h4 : 0 ≤ a) (h5 : 0 < b) (w : World) :
    Calls Try.prog 34 #[.agg #[.float .f64 (ofKey (a)), .float .f64 (ofKey (b))], .agg #[.float .f64 (ofKey (c)), .float .f64 (ofKey (d))]] w fun e w' => e = .returned (.agg #[.float .f64 (ofKey (endK 9 a d false)), .float .f64 (ofKey (PI))]) ∧ Below w.heap.size w w' := by
  have he := eqiv
  have hP := PI_pos
  have q1 := ha.1; have q2 := ha.2; have q3 := hb.1; have q4 := hb.2; have q5 := hc.1; have q6 := hc.2; have q7 := hd.1; have q8 := hd.2
  have dD : decide (d = 0) = false := decide_eq_false (by omega)
  have dp : decide (0 < c) = false := decide_eq_false (by omega)
  have EL := Lib.hid (fun w => ivlend_any 9 a d false ha hd (.inr (.inr ⟨rfl, by omega⟩)) w)
  generalize endK 9 a d false = x at *
  clear h2
  go_enter Try.func34, Try.ntmps34
  go_wp2_with fail
  have A0_0 : At (World.alloc (World.alloc (World.alloc w (.cells #[.float .f64 (ofKey (a)), .float .f64 (ofKey (b))] 27)) (.cells #[.float .f64 (ofKey (c)), .float .f64 (ofKey (d))] 27)) (.cells #[.float .f64 (0), .float .f64 (0)] 27)) (w.heap.size) 0 (.float .f64 (ofKey (a))) := ⟨by simp [go_sem], by simp [go_sem]⟩
  have A0_1 : At (World.alloc (World.alloc (World.alloc w (.cells #[.float .f64 (ofKey (a)), .float .f64 (ofKey (b))] 27)) (.cells #[.float .f64 (ofKey (c)), .float .f64 (ofKey (d))] 27)) (.cells #[.float .f64 (0), .float .f64 (0)] 27)) (w.heap.size) 1 (.float .f64 (ofKey (b))) := ⟨by simp [go_sem], by simp [go_sem]⟩
  have A1_0 : At (World.alloc (World.alloc (World.alloc w (.cells #[.float .f64 (ofKey (a)), .float .f64 (ofKey (b))] 27)) (.cells #[.float .f64 (ofKey (c)), .float .f64 (ofKey (d))] 27)) (.cells #[.float .f64 (0), .float .f64 (0)] 27)) (w.heap.size + 1) 0 (.float .f64 (ofKey (c))) := ⟨by simp [go_sem], by simp [go_sem]⟩
  have A1_1 : At (World.alloc (World.alloc (World.alloc w (.cells #[.float .f64 (ofKey (a)), .float .f64 (ofKey (b))] 27)) (.cells #[.float .f64 (ofKey (c)), .float .f64 (ofKey (d))] 27)) (.cells #[.float .f64 (0), .float .f64 (0)] 27)) (w.heap.size + 1) 1 (.float .f64 (ofKey (d))) := ⟨by simp [go_sem], by simp [go_sem]⟩
  have A2_0 : At (World.alloc (World.alloc (World.alloc w (.cells #[.float .f64 (ofKey (a)), .float .f64 (ofKey (b))] 27)) (.cells #[.float .f64 (ofKey (c)), .float .f64 (ofKey (d))] 27)) (.cells #[.float .f64 (0), .float .f64 (0)] 27)) (w.heap.size + 1 + 1) 0 (.float .f64 (0)) := ⟨by simp [go_sem], by simp [go_sem]⟩
  have A2_1 : At (World.alloc (World.alloc (World.alloc w (.cells #[.float .f64 (ofKey (a)), .float .f64 (ofKey (b))] 27)) (.cells #[.float .f64 (ofKey (c)), .float .f64 (ofKey (d))] 27)) (.cells #[.float .f64 (0), .float .f64 (0)] 27)) (w.heap.size + 1 + 1) 1 (.float .f64 (0)) := ⟨by simp [go_sem], by simp [go_sem]⟩
  have k0_0 := cell_regrown A0_0.1
  have k0_1 := cell_regrown A0_1.1
  have k1_0 := cell_regrown A1_0.1
  have k1_1 := cell_regrown A1_1.1
  have k2_0 := cell_regrown A2_0.1
  have k2_1 := cell_regrown A2_1.1
  refine wp_region_below (by kernel_rfl) (by kernel_rfl) ?_
  repeat (go_big_quiet_step ((go_at_call 48; exact Calls.regrown_of (ivlzero_any _))))
  refine wpQuiet_nil (fun w1 hbw1 => ?_)
  clear k0_0 k0_1 k1_0 k1_1 k2_0 k2_1
  replace A0_0 := At.below A0_0 hbw1
  replace A0_1 := At.below A0_1 hbw1
  replace A1_0 := At.below A1_0 hbw1
  replace A1_1 := At.below A1_1 hbw1
  replace A2_0 := At.below A2_0 hbw1
  replace A2_1 := At.below A2_1 hbw1
  have B := below_alloc (below_alloc (below_alloc (hbw1)))
  clear hbw1
  have F0_0 := A0_0.1; have G0_0 := A0_0.2
  have F0_1 := A0_1.1; have G0_1 := A0_1.2
  have F1_0 := A1_0.1; have G1_0 := A1_0.2
  have F1_1 := A1_1.1; have G1_1 := A1_1.2
  have F2_0 := A2_0.1; have G2_0 := A2_0.2
  have F2_1 := A2_1.1; have G2_1 := A2_1.2
  have Z0 := A0_0.lt
  have Z1 := A1_0.lt
  have Z2 := A2_0.lt
  go_wp2_with fail
  have k0_0 := cell_regrown A0_0.1
  have k0_1 := cell_regrown A0_1.1
  have k1_0 := cell_regrown A1_0.1
  have k1_1 := cell_regrown A1_1.1
  have k2_0 := cell_regrown A2_0.1
  have k2_1 := cell_regrown A2_1.1
  refine wp_region_below (by kernel_rfl) (by kernel_rfl) ?_
  repeat (go_big_quiet_step ((go_at_call 48; exact Calls.regrown_of (ivlzero_any _))))
  refine wpQuiet_nil (fun w2 hbw2 => ?_)
  clear k0_0 k0_1 k1_0 k1_1 k2_0 k2_1
  clear F0_0 G0_0 F0_1 G0_1 F1_0 G1_0 F1_1 G1_1 F2_0 G2_0 F2_1 G2_1 Z0 Z1 Z2
  replace A0_0 := At.below (A0_0) hbw2
  replace A0_1 := At.below (A0_1) hbw2
  replace A1_0 := At.below (A1_0) hbw2
  replace A1_1 := At.below (A1_1) hbw2
  replace A2_0 := At.below (A2_0) hbw2
  replace A2_1 := At.below (A2_1) hbw2
  replace B := below_step B B.size (hbw2)
  clear hbw2
  have F0_0 := A0_0.1; have G0_0 := A0_0.2
  have F0_1 := A0_1.1; have G0_1 := A0_1.2
  have F1_0 := A1_0.1; have G1_0 := A1_0.2
  have F1_1 := A1_1.1; have G1_1 := A1_1.2
  have F2_0 := A2_0.1; have G2_0 := A2_0.2
  have F2_1 := A2_1.1; have G2_1 := A2_1.2
  have Z0 := A0_0.lt
  have Z1 := A1_0.lt
  have Z2 := A2_0.lt
  go_wp2_with fail
  have k0_0 := cell_regrown A0_0.1
  have k0_1 := cell_regrown A0_1.1
  have k1_0 := cell_regrown A1_0.1
  have k1_1 := cell_regrown A1_1.1
  have k2_0 := cell_regrown A2_0.1
  have k2_1 := cell_regrown A2_1.1
  refine wp_region_below (by kernel_rfl) (by kernel_rfl) ?_
  repeat (go_big_quiet_step ((go_at_call 24; exact quiet_same (ivlinf_any _))))
  refine wpQuiet_nil (fun w3 hbw3 => ?_)
  clear k0_0 k0_1 k1_0 k1_1 k2_0 k2_1
  clear F0_0 G0_0 F0_1 G0_1 F1_0 G1_0 F1_1 G1_1 F2_0 G2_0 F2_1 G2_1 Z0 Z1 Z2
  replace A0_0 := At.below (A0_0) hbw3
  replace A0_1 := At.below (A0_1) hbw3
  replace A1_0 := At.below (A1_0) hbw3
  replace A1_1 := At.below (A1_1) hbw3
  replace A2_0 := At.below (A2_0) hbw3
  replace A2_1 := At.below (A2_1) hbw3
  replace B := below_step B B.size (hbw3)
  clear hbw3
  have F0_0 := A0_0.1; have G0_0 := A0_0.2
  have F0_1 := A0_1.1; have G0_1 := A0_1.2
  have F1_0 := A1_0.1; have G1_0 := A1_0.2
  have F1_1 := A1_1.1; have G1_1 := A1_1.2
  have F2_0 := A2_0.1; have G2_0 := A2_0.2
  have F2_1 := A2_1.1; have G2_1 := A2_1.2
  have Z0 := A0_0.lt
  have Z1 := A1_0.lt
  have Z2 := A2_0.lt
  go_wp2_with (go_at_call 24; refine (ivlinf_any _).mono ?_; rintro e w' ⟨rfl, rfl⟩)
  clear F0_0 G0_0 F0_1 G0_1 F1_0 G1_0 F1_1 G1_1 F2_0 G2_0 F2_1 G2_1 Z0 Z1 Z2
  have n1 : w.heap.size < w3.heap.size := by simpa only [World.size_setCell] using At.lt A0_0
  have n2 : w.heap.size + 1 < w3.heap.size := by simpa only [World.size_setCell] using At.lt A1_0
  have n3 : w.heap.size + 1 + 1 < w3.heap.size := by simpa only [World.size_setCell] using At.lt A2_0
  replace A0_0 : At (World.alloc w3 (.cells #[.float .f64 (ofKey (-PI)), .float .f64 (ofKey (PI))] 27)) _ _ _ := At.alloc (A0_0)
  replace A0_1 : At (World.alloc w3 (.cells #[.float .f64 (ofKey (-PI)), .float .f64 (ofKey (PI))] 27)) _ _ _ := At.alloc (A0_1)
  replace A1_0 : At (World.alloc w3 (.cells #[.float .f64 (ofKey (-PI)), .float .f64 (ofKey (PI))] 27)) _ _ _ := At.alloc (A1_0)
  replace A1_1 : At (World.alloc w3 (.cells #[.float .f64 (ofKey (-PI)), .float .f64 (ofKey (PI))] 27)) _ _ _ := At.alloc (A1_1)
  replace A2_0 : At (World.alloc w3 (.cells #[.float .f64 (ofKey (-PI)), .float .f64 (ofKey (PI))] 27)) _ _ _ := At.alloc (A2_0)
  replace A2_1 : At (World.alloc w3 (.cells #[.float .f64 (ofKey (-PI)), .float .f64 (ofKey (PI))] 27)) _ _ _ := At.alloc (A2_1)
  have A3_0 : At (World.alloc w3 (.cells #[.float .f64 (ofKey (-PI)), .float .f64 (ofKey (PI))] 27)) (w3.heap.size) 0 (.float .f64 (ofKey (-PI))) := ⟨by simp [go_sem], by simp [go_sem]⟩
  have A3_1 : At (World.alloc w3 (.cells #[.float .f64 (ofKey (-PI)), .float .f64 (ofKey (PI))] 27)) (w3.heap.size) 1 (.float .f64 (ofKey (PI))) := ⟨by simp [go_sem], by simp [go_sem]⟩
  have B' : Below w.heap.size w (World.alloc w3 (.cells #[.float .f64 (ofKey (-PI)), .float .f64 (ofKey (PI))] 27)) := (Below.alloc B (by first | exact B.size | (simp only [World.size_setCell, World.size_alloc]; have := B.size; omega)) _)
  clear B
  obtain ⟨w4, hw4⟩ : ∃ w4, w4 = (World.alloc w3 (.cells #[.float .f64 (ofKey (-PI)), .float .f64 (ofKey (PI))] 27)) := ⟨_, rfl⟩
  rw [← hw4]
  replace A0_0 := At.of A0_0 hw4
  replace A0_1 := At.of A0_1 hw4
  replace A1_0 := At.of A1_0 hw4
  replace A1_1 := At.of A1_1 hw4
  replace A2_0 := At.of A2_0 hw4
  replace A2_1 := At.of A2_1 hw4
  replace A3_0 := At.of A3_0 hw4
  replace A3_1 := At.of A3_1 hw4
  have B := below_of B' hw4
  clear B' hw4
  have F0_0 := A0_0.1; have G0_0 := A0_0.2
  have F0_1 := A0_1.1; have G0_1 := A0_1.2
  have F1_0 := A1_0.1; have G1_0 := A1_0.2
  have F1_1 := A1_1.1; have G1_1 := A1_1.2
  have F2_0 := A2_0.1; have G2_0 := A2_0.2
  have F2_1 := A2_1.1; have G2_1 := A2_1.2
  have F3_0 := A3_0.1; have G3_0 := A3_0.2
  have F3_1 := A3_1.1; have G3_1 := A3_1.2
  have Z0 := A0_0.lt
  have Z1 := A1_0.lt
  have Z2 := A2_0.lt
  have Z3 := A3_0.lt
  refine (EL.out _).mono ?_
  rintro e w5 ⟨rfl, hbw5⟩
  clear F0_0 G0_0 F0_1 G0_1 F1_0 G1_0 F1_1 G1_1 F2_0 G2_0 F2_1 G2_1 F3_0 G3_0 F3_1 G3_1 Z0 Z1 Z2 Z3
  replace A0_0 := At.below (A0_0) hbw5
  replace A0_1 := At.below (A0_1) hbw5
  replace A1_0 := At.below (A1_0) hbw5
  replace A1_1 := At.below (A1_1) hbw5
  replace A2_0 := At.below (A2_0) hbw5
  replace A2_1 := At.below (A2_1) hbw5
  replace A3_0 := At.below (A3_0) hbw5
  replace A3_1 := At.below (A3_1) hbw5
  replace B := below_step B B.size (hbw5)
  clear hbw5
  have F0_0 := A0_0.1; have G0_0 := A0_0.2
  have F0_1 := A0_1.1; have G0_1 := A0_1.2
  have F1_0 := A1_0.1; have G1_0 := A1_0.2
  have F1_1 := A1_1.1; have G1_1 := A1_1.2
  have F2_0 := A2_0.1; have G2_0 := A2_0.2
  have F2_1 := A2_1.1; have G2_1 := A2_1.2
  have F3_0 := A3_0.1; have G3_0 := A3_0.2
  have F3_1 := A3_1.1; have G3_1 := A3_1.2
  have Z0 := A0_0.lt
  have Z1 := A1_0.lt
  have Z2 := A2_0.lt
  have Z3 := A3_0.lt
  go_wp2_with fail
  clear F0_0 G0_0 F0_1 G0_1 F1_0 G1_0 F1_1 G1_1 F2_0 G2_0 F2_1 G2_1 F3_0 G3_0 F3_1 G3_1 Z0 Z1 Z2 Z3
  replace A0_0 := At.set_blk (b' := w3.heap.size) (f' := 0) A0_0 (by first | omega | (have := B.size; omega)) (.float .f64 (ofKey (x)))
  replace A0_1 := At.set_blk (b' := w3.heap.size) (f' := 0) A0_1 (by first | omega | (have := B.size; omega)) (.float .f64 (ofKey (x)))
  replace A1_0 := At.set_blk (b' := w3.heap.size) (f' := 0) A1_0 (by first | omega | (have := B.size; omega)) (.float .f64 (ofKey (x)))
  replace A1_1 := At.set_blk (b' := w3.heap.size) (f' := 0) A1_1 (by first | omega | (have := B.size; omega)) (.float .f64 (ofKey (x)))
  replace A2_0 := At.set_blk (b' := w3.heap.size) (f' := 0) A2_0 (by first | omega | (have := B.size; omega)) (.float .f64 (ofKey (x)))
  replace A2_1 := At.set_blk (b' := w3.heap.size) (f' := 0) A2_1 (by first | omega | (have := B.size; omega)) (.float .f64 (ofKey (x)))
  replace A3_0 := At.set_same A3_0 (.float .f64 (ofKey (x)))
  replace A3_1 := At.set_off (f' := 0) A3_1 (by decide) (.float .f64 (ofKey (x)))
  replace A0_0 := At.set_blk (b' := w.heap.size + 1 + 1) (f' := 0) A0_0 (by first | omega | (have := B.size; omega)) (.float .f64 (ofKey (x)))
  replace A0_1 := At.set_blk (b' := w.heap.size + 1 + 1) (f' := 0) A0_1 (by first | omega | (have := B.size; omega)) (.float .f64 (ofKey (x)))
  replace A1_0 := At.set_blk (b' := w.heap.size + 1 + 1) (f' := 0) A1_0 (by first | omega | (have := B.size; omega)) (.float .f64 (ofKey (x)))
  replace A1_1 := At.set_blk (b' := w.heap.size + 1 + 1) (f' := 0) A1_1 (by first | omega | (have := B.size; omega)) (.float .f64 (ofKey (x)))
  replace A2_0 := At.set_same A2_0 (.float .f64 (ofKey (x)))
  replace A2_1 := At.set_off (f' := 0) A2_1 (by decide) (.float .f64 (ofKey (x)))
  replace A3_0 := At.set_blk (b' := w.heap.size + 1 + 1) (f' := 0) A3_0 (by first | omega | (have := B.size; omega)) (.float .f64 (ofKey (x)))
  replace A3_1 := At.set_blk (b' := w.heap.size + 1 + 1) (f' := 0) A3_1 (by first | omega | (have := B.size; omega)) (.float .f64 (ofKey (x)))
  replace A0_0 := At.set_blk (b' := w.heap.size + 1 + 1) (f' := 1) A0_0 (by first | omega | (have := B.size; omega)) (.float .f64 (ofKey (PI)))
  replace A0_1 := At.set_blk (b' := w.heap.size + 1 + 1) (f' := 1) A0_1 (by first | omega | (have := B.size; omega)) (.float .f64 (ofKey (PI)))
  replace A1_0 := At.set_blk (b' := w.heap.size + 1 + 1) (f' := 1) A1_0 (by first | omega | (have := B.size; omega)) (.float .f64 (ofKey (PI)))
  replace A1_1 := At.set_blk (b' := w.heap.size + 1 + 1) (f' := 1) A1_1 (by first | omega | (have := B.size; omega)) (.float .f64 (ofKey (PI)))
  replace A2_0 := At.set_off (f' := 1) A2_0 (by decide) (.float .f64 (ofKey (PI)))
  replace A2_1 := At.set_same A2_1 (.float .f64 (ofKey (PI)))
  replace A3_0 := At.set_blk (b' := w.heap.size + 1 + 1) (f' := 1) A3_0 (by first | omega | (have := B.size; omega)) (.float .f64 (ofKey (PI)))
  replace A3_1 := At.set_blk (b' := w.heap.size + 1 + 1) (f' := 1) A3_1 (by first | omega | (have := B.size; omega)) (.float .f64 (ofKey (PI)))
  have B' : Below w.heap.size w (World.setCell (World.setCell (World.setCell w5 ⟨w3.heap.size, 0, none⟩ (.float .f64 (ofKey (x)))) ⟨w.heap.size + 1 + 1, 0, none⟩ (.float .f64 (ofKey (x)))) ⟨w.heap.size + 1 + 1, 1, none⟩ (.float .f64 (ofKey (PI)))) := (Below.setCell (Below.setCell (Below.setCell B (p := ⟨w3.heap.size, 0, none⟩) (by first | (show w.heap.size ≤ w3.heap.size; omega) | (have := B.size; show w.heap.size ≤ w3.heap.size; omega)) (.float .f64 (ofKey (x)))) (p := ⟨w.heap.size + 1 + 1, 0, none⟩) (by first | (show w.heap.size ≤ w.heap.size + 1 + 1; omega) | (have := B.size; show w.heap.size ≤ w.heap.size + 1 + 1; omega)) (.float .f64 (ofKey (x)))) (p := ⟨w.heap.size + 1 + 1, 1, none⟩) (by first | (show w.heap.size ≤ w.heap.size + 1 + 1; omega) | (have := B.size; show w.heap.size ≤ w.heap.size + 1 + 1; omega)) (.float .f64 (ofKey (PI))))
  clear B
  obtain ⟨wz, hwz⟩ : ∃ wz, wz = (World.setCell (World.setCell (World.setCell w5 ⟨w3.heap.size, 0, none⟩ (.float .f64 (ofKey (x)))) ⟨w.heap.size + 1 + 1, 0, none⟩ (.float .f64 (ofKey (x)))) ⟨w.heap.size + 1 + 1, 1, none⟩ (.float .f64 (ofKey (PI)))) := ⟨_, rfl⟩
  rw [← hwz]
  replace A0_0 := At.of A0_0 hwz
  replace A0_1 := At.of A0_1 hwz
  replace A1_0 := At.of A1_0 hwz
  replace A1_1 := At.of A1_1 hwz
  replace A2_0 := At.of A2_0 hwz
  replace A2_1 := At.of A2_1 hwz
  replace A3_0 := At.of A3_0 hwz
  replace A3_1 := At.of A3_1 hwz
  have B := below_of B' hwz
  clear B' hwz
  have F0_0 := A0_0.1; have G0_0 := A0_0.2
  have F0_1 := A0_1.1; have G0_1 := A0_1.2
  have F1_0 := A1_0.1; have G1_0 := A1_0.2
  have F1_1 := A1_1.1; have G1_1 := A1_1.2
  have F2_0 := A2_0.1; have G2_0 := A2_0.2
  have F2_1 := A2_1.1; have G2_1 := A2_1.2
  have F3_0 := A3_0.1; have G3_0 := A3_0.2
  have F3_1 := A3_1.1; have G3_1 := A3_1.2
  have Z0 := A0_0.lt
  have Z1 := A1_0.lt
  have Z2 := A2_0.lt
  have Z3 := A3_0.lt
  refine bodyPost_ret (v := .agg #[.float .f64 (ofKey (x)), .float .f64 (ofKey (PI))]) (by simp [results, Try.results34, go_sem, F2_0, F2_1]) rfl ⟨rfl, ?_⟩
  exact B

set_option maxHeartbeats 1000000 in
theorem div_p3zNN (a b c d : Int) (ha : Rg a) (hb : Rg b) (hc : Rg c) (hd : Rg d) (h0 : 0 ≤ c) (h1 : 0 < d) (hAB : (decide (a = 0) && decide (b = 0)) = false) (h2 : c = 0) (h4 : a < 0) (h5 : b ≤ 0) (w : World) :
    Calls Try.prog 34 #[.agg #[.float .f64 (ofKey (a)), .float .f64 (ofKey (b))], .agg #[.float .f64 (ofKey (c)), .float .f64 (ofKey (d))]] w fun e w' => e = .returned (.agg #[.float .f64 (ofKey (-PI)), .float .f64 (ofKey (endK 9 b d true))]) ∧ Below w.heap.size w w' := by
  have he := eqiv
  have hP := PI_pos
  have q1 := ha.1; have q2 := ha.2; have q3 := hb.1; have q4 := hb.2; have q5 := hc.1; have q6 := hc.2; have q7 := hd.1; have q8 := hd.2
  have dD : decide (d = 0) = false := decide_eq_false (by omega)
  have dp : decide (0 < c) = false := decide_eq_false (by omega)
  have EH := Lib.hid (fun w => ivlend_any 9 b d true hb hd (.inr (.inr ⟨rfl, by omega⟩)) w)
  generalize endK 9 b d true = y at *
  clear h2
  go_enter Try.func34, Try.ntmps34
  go_wp2_with fail
  have A0_0 : At (World.alloc (World.alloc (World.alloc w (.cells #[.float .f64 (ofKey (a)), .float .f64 (ofKey (b))] 27)) (.cells #[.float .f64 (ofKey (c)), .float .f64 (ofKey (d))] 27)) (.cells #[.float .f64 (0), .float .f64 (0)] 27)) (w.heap.size) 0 (.float .f64 (ofKey (a))) := ⟨by simp [go_sem], by simp [go_sem]⟩
  have A0_1 : At (World.alloc (World.alloc (World.alloc w (.cells #[.float .f64 (ofKey (a)), .float .f64 (ofKey (b))] 27)) (.cells #[.float .f64 (ofKey (c)), .float .f64 (ofKey (d))] 27)) (.cells #[.float .f64 (0), .float .f64 (0)] 27)) (w.heap.size) 1 (.float .f64 (ofKey (b))) := ⟨by simp [go_sem], by simp [go_sem]⟩
  have A1_0 : At (World.alloc (World.alloc (World.alloc w (.cells #[.float .f64 (ofKey (a)), .float .f64 (ofKey (b))] 27)) (.cells #[.float .f64 (ofKey (c)), .float .f64 (ofKey (d))] 27)) (.cells #[.float .f64 (0), .float .f64 (0)] 27)) (w.heap.size + 1) 0 (.float .f64 (ofKey (c))) := ⟨by simp [go_sem], by simp [go_sem]⟩
  have A1_1 : At (World.alloc (World.alloc (World.alloc w (.cells #[.float .f64 (ofKey (a)), .float .f64 (ofKey (b))] 27)) (.cells #[.float .f64 (ofKey (c)), .float .f64 (ofKey (d))] 27)) (.cells #[.float .f64 (0), .float .f64 (0)] 27)) (w.heap.size + 1) 1 (.float .f64 (ofKey (d))) := ⟨by simp [go_sem], by simp [go_sem]⟩
  have A2_0 : At (World.alloc (World.alloc (World.alloc w (.cells #[.float .f64 (ofKey (a)), .float .f64 (ofKey (b))] 27)) (.cells #[.float .f64 (ofKey (c)), .float .f64 (ofKey (d))] 27)) (.cells #[.float .f64 (0), .float .f64 (0)] 27)) (w.heap.size + 1 + 1) 0 (.float .f64 (0)) := ⟨by simp [go_sem], by simp [go_sem]⟩
  have A2_1 : At (World.alloc (World.alloc (World.alloc w (.cells #[.float .f64 (ofKey (a)), .float .f64 (ofKey (b))] 27)) (.cells #[.float .f64 (ofKey (c)), .float .f64 (ofKey (d))] 27)) (.cells #[.float .f64 (0), .float .f64 (0)] 27)) (w.heap.size + 1 + 1) 1 (.float .f64 (0)) := ⟨by simp [go_sem], by simp [go_sem]⟩
  have k0_0 := cell_regrown A0_0.1
  have k0_1 := cell_regrown A0_1.1
  have k1_0 := cell_regrown A1_0.1
  have k1_1 := cell_regrown A1_1.1
  have k2_0 := cell_regrown A2_0.1
  have k2_1 := cell_regrown A2_1.1
  refine wp_region_below (by kernel_rfl) (by kernel_rfl) ?_
  repeat (go_big_quiet_step ((go_at_call 48; exact Calls.regrown_of (ivlzero_any _))))
  refine wpQuiet_nil (fun w1 hbw1 => ?_)
  clear k0_0 k0_1 k1_0 k1_1 k2_0 k2_1
  replace A0_0 := At.below A0_0 hbw1
  replace A0_1 := At.below A0_1 hbw1
  replace A1_0 := At.below A1_0 hbw1
  replace A1_1 := At.below A1_1 hbw1
  replace A2_0 := At.below A2_0 hbw1
  replace A2_1 := At.below A2_1 hbw1
  have B := below_alloc (below_alloc (below_alloc (hbw1)))
  clear hbw1
  have F0_0 := A0_0.1; have G0_0 := A0_0.2
  have F0_1 := A0_1.1; have G0_1 := A0_1.2
  have F1_0 := A1_0.1; have G1_0 := A1_0.2
  have F1_1 := A1_1.1; have G1_1 := A1_1.2
  have F2_0 := A2_0.1; have G2_0 := A2_0.2
  have F2_1 := A2_1.1; have G2_1 := A2_1.2
  have Z0 := A0_0.lt
  have Z1 := A1_0.lt
  have Z2 := A2_0.lt
  go_wp2_with fail
  have k0_0 := cell_regrown A0_0.1
  have k0_1 := cell_regrown A0_1.1
  have k1_0 := cell_regrown A1_0.1
  have k1_1 := cell_regrown A1_1.1
  have k2_0 := cell_regrown A2_0.1
  have k2_1 := cell_regrown A2_1.1
  refine wp_region_below (by kernel_rfl) (by kernel_rfl) ?_
  repeat (go_big_quiet_step ((go_at_call 48; exact Calls.regrown_of (ivlzero_any _))))
  refine wpQuiet_nil (fun w2 hbw2 => ?_)
  clear k0_0 k0_1 k1_0 k1_1 k2_0 k2_1
  clear F0_0 G0_0 F0_1 G0_1 F1_0 G1_0 F1_1 G1_1 F2_0 G2_0 F2_1 G2_1 Z0 Z1 Z2
  replace A0_0 := At.below (A0_0) hbw2
  replace A0_1 := At.below (A0_1) hbw2
  replace A1_0 := At.below (A1_0) hbw2
  replace A1_1 := At.below (A1_1) hbw2
  replace A2_0 := At.below (A2_0) hbw2
  replace A2_1 := At.below (A2_1) hbw2
  replace B := below_step B B.size (hbw2)
  clear hbw2
  have F0_0 := A0_0.1; have G0_0 := A0_0.2
  have F0_1 := A0_1.1; have G0_1 := A0_1.2
  have F1_0 := A1_0.1; have G1_0 := A1_0.2
  have F1_1 := A1_1.1; have G1_1 := A1_1.2
  have F2_0 := A2_0.1; have G2_0 := A2_0.2
  have F2_1 := A2_1.1; have G2_1 := A2_1.2
  have Z0 := A0_0.lt
  have Z1 := A1_0.lt
  have Z2 := A2_0.lt
  go_wp2_with fail
  have k0_0 := cell_regrown A0_0.1
  have k0_1 := cell_regrown A0_1.1
  have k1_0 := cell_regrown A1_0.1
  have k1_1 := cell_regrown A1_1.1
  have k2_0 := cell_regrown A2_0.1
  have k2_1 := cell_regrown A2_1.1
  refine wp_region_below (by kernel_rfl) (by kernel_rfl) ?_
  repeat (go_big_quiet_step ((go_at_call 24; exact quiet_same (ivlinf_any _))))
  refine wpQuiet_nil (fun w3 hbw3 => ?_)
  clear k0_0 k0_1 k1_0 k1_1 k2_0 k2_1
  clear F0_0 G0_0 F0_1 G0_1 F1_0 G1_0 F1_1 G1_1 F2_0 G2_0 F2_1 G2_1 Z0 Z1 Z2
  replace A0_0 := At.below (A0_0) hbw3
  replace A0_1 := At.below (A0_1) hbw3
  replace A1_0 := At.below (A1_0) hbw3
  replace A1_1 := At.below (A1_1) hbw3
  replace A2_0 := At.below (A2_0) hbw3
  replace A2_1 := At.below (A2_1) hbw3
  replace B := below_step B B.size (hbw3)
  clear hbw3
  have F0_0 := A0_0.1; have G0_0 := A0_0.2
  have F0_1 := A0_1.1; have G0_1 := A0_1.2
  have F1_0 := A1_0.1; have G1_0 := A1_0.2
  have F1_1 := A1_1.1; have G1_1 := A1_1.2
  have F2_0 := A2_0.1; have G2_0 := A2_0.2
  have F2_1 := A2_1.1; have G2_1 := A2_1.2
  have Z0 := A0_0.lt
  have Z1 := A1_0.lt
  have Z2 := A2_0.lt
  go_wp2_with (go_at_call 24; refine (ivlinf_any _).mono ?_; rintro e w' ⟨rfl, rfl⟩)
  clear F0_0 G0_0 F0_1 G0_1 F1_0 G1_0 F1_1 G1_1 F2_0 G2_0 F2_1 G2_1 Z0 Z1 Z2
  have n1 : w.heap.size < w3.heap.size := by simpa only [World.size_setCell] using At.lt A0_0
  have n2 : w.heap.size + 1 < w3.heap.size := by simpa only [World.size_setCell] using At.lt A1_0
  have n3 : w.heap.size + 1 + 1 < w3.heap.size := by simpa only [World.size_setCell] using At.lt A2_0
  replace A0_0 : At (World.alloc w3 (.cells #[.float .f64 (ofKey (-PI)), .float .f64 (ofKey (PI))] 27)) _ _ _ := At.alloc (A0_0)
  replace A0_1 : At (World.alloc w3 (.cells #[.float .f64 (ofKey (-PI)), .float .f64 (ofKey (PI))] 27)) _ _ _ := At.alloc (A0_1)
  replace A1_0 : At (World.alloc w3 (.cells #[.float .f64 (ofKey (-PI)), .float .f64 (ofKey (PI))] 27)) _ _ _ := At.alloc (A1_0)
  replace A1_1 : At (World.alloc w3 (.cells #[.float .f64 (ofKey (-PI)), .float .f64 (ofKey (PI))] 27)) _ _ _ := At.alloc (A1_1)
  replace A2_0 : At (World.alloc w3 (.cells #[.float .f64 (ofKey (-PI)), .float .f64 (ofKey (PI))] 27)) _ _ _ := At.alloc (A2_0)
  replace A2_1 : At (World.alloc w3 (.cells #[.float .f64 (ofKey (-PI)), .float .f64 (ofKey (PI))] 27)) _ _ _ := At.alloc (A2_1)
  have A3_0 : At (World.alloc w3 (.cells #[.float .f64 (ofKey (-PI)), .float .f64 (ofKey (PI))] 27)) (w3.heap.size) 0 (.float .f64 (ofKey (-PI))) := ⟨by simp [go_sem], by simp [go_sem]⟩
  have A3_1 : At (World.alloc w3 (.cells #[.float .f64 (ofKey (-PI)), .float .f64 (ofKey (PI))] 27)) (w3.heap.size) 1 (.float .f64 (ofKey (PI))) := ⟨by simp [go_sem], by simp [go_sem]⟩
  have B' : Below w.heap.size w (World.alloc w3 (.cells #[.float .f64 (ofKey (-PI)), .float .f64 (ofKey (PI))] 27)) := (Below.alloc B (by first | exact B.size | (simp only [World.size_setCell, World.size_alloc]; have := B.size; omega)) _)
  clear B
  obtain ⟨w6, hw6⟩ : ∃ w6, w6 = (World.alloc w3 (.cells #[.float .f64 (ofKey (-PI)), .float .f64 (ofKey (PI))] 27)) := ⟨_, rfl⟩
  rw [← hw6]
  replace A0_0 := At.of A0_0 hw6
  replace A0_1 := At.of A0_1 hw6
  replace A1_0 := At.of A1_0 hw6
  replace A1_1 := At.of A1_1 hw6
  replace A2_0 := At.of A2_0 hw6
  replace A2_1 := At.of A2_1 hw6
  replace A3_0 := At.of A3_0 hw6
  replace A3_1 := At.of A3_1 hw6
  have B := below_of B' hw6
  clear B' hw6
  have F0_0 := A0_0.1; have G0_0 := A0_0.2
  have F0_1 := A0_1.1; have G0_1 := A0_1.2
  have F1_0 := A1_0.1; have G1_0 := A1_0.2
  have F1_1 := A1_1.1; have G1_1 := A1_1.2
  have F2_0 := A2_0.1; have G2_0 := A2_0.2
  have F2_1 := A2_1.1; have G2_1 := A2_1.2
  have F3_0 := A3_0.1; have G3_0 := A3_0.2
  have F3_1 := A3_1.1; have G3_1 := A3_1.2
  have Z0 := A0_0.lt
  have Z1 := A1_0.lt
  have Z2 := A2_0.lt
  have Z3 := A3_0.lt
  refine (EH.out _).mono ?_
  rintro e w7 ⟨rfl, hbw7⟩
  clear F0_0 G0_0 F0_1 G0_1 F1_0 G1_0 F1_1 G1_1 F2_0 G2_0 F2_1 G2_1 F3_0 G3_0 F3_1 G3_1 Z0 Z1 Z2 Z3
  replace A0_0 := At.below (A0_0) hbw7
  replace A0_1 := At.below (A0_1) hbw7
  replace A1_0 := At.below (A1_0) hbw7
  replace A1_1 := At.below (A1_1) hbw7
  replace A2_0 := At.below (A2_0) hbw7
  replace A2_1 := At.below (A2_1) hbw7
  replace A3_0 := At.below (A3_0) hbw7
  replace A3_1 := At.below (A3_1) hbw7
  replace B := below_step B B.size (hbw7)
  clear hbw7
  have F0_0 := A0_0.1; have G0_0 := A0_0.2
  have F0_1 := A0_1.1; have G0_1 := A0_1.2
  have F1_0 := A1_0.1; have G1_0 := A1_0.2
  have F1_1 := A1_1.1; have G1_1 := A1_1.2
  have F2_0 := A2_0.1; have G2_0 := A2_0.2
  have F2_1 := A2_1.1; have G2_1 := A2_1.2
  have F3_0 := A3_0.1; have G3_0 := A3_0.2
  have F3_1 := A3_1.1; have G3_1 := A3_1.2
  have Z0 := A0_0.lt
  have Z1 := A1_0.lt
  have Z2 := A2_0.lt
  have Z3 := A3_0.lt
  go_wp2_with fail
  clear F0_0 G0_0 F0_1 G0_1 F1_0 G1_0 F1_1 G1_1 F2_0 G2_0 F2_1 G2_1 F3_0 G3_0 F3_1 G3_1 Z0 Z1 Z2 Z3
  replace A0_0 := At.set_blk (b' := w3.heap.size) (f' := 1) A0_0 (by first | omega | (have := B.size; omega)) (.float .f64 (ofKey (y)))
  replace A0_1 := At.set_blk (b' := w3.heap.size) (f' := 1) A0_1 (by first | omega | (have := B.size; omega)) (.float .f64 (ofKey (y)))
  replace A1_0 := At.set_blk (b' := w3.heap.size) (f' := 1) A1_0 (by first | omega | (have := B.size; omega)) (.float .f64 (ofKey (y)))
  replace A1_1 := At.set_blk (b' := w3.heap.size) (f' := 1) A1_1 (by first | omega | (have := B.size; omega)) (.float .f64 (ofKey (y)))
  replace A2_0 := At.set_blk (b' := w3.heap.size) (f' := 1) A2_0 (by first | omega | (have := B.size; omega)) (.float .f64 (ofKey (y)))
  replace A2_1 := At.set_blk (b' := w3.heap.size) (f' := 1) A2_1 (by first | omega | (have := B.size; omega)) (.float .f64 (ofKey (y)))
  replace A3_0 := At.set_off (f' := 1) A3_0 (by decide) (.float .f64 (ofKey (y)))
  replace A3_1 := At.set_same A3_1 (.float .f64 (ofKey (y)))
  replace A0_0 := At.set_blk (b' := w.heap.size + 1 + 1) (f' := 0) A0_0 (by first | omega | (have := B.size; omega)) (.float .f64 (ofKey (-PI)))
  replace A0_1 := At.set_blk (b' := w.heap.size + 1 + 1) (f' := 0) A0_1 (by first | omega | (have := B.size; omega)) (.float .f64 (ofKey (-PI)))
  replace A1_0 := At.set_blk (b' := w.heap.size + 1 + 1) (f' := 0) A1_0 (by first | omega | (have := B.size; omega)) (.float .f64 (ofKey (-PI)))
  replace A1_1 := At.set_blk (b' := w.heap.size + 1 + 1) (f' := 0) A1_1 (by first | omega | (have := B.size; omega)) (.float .f64 (ofKey (-PI)))
  replace A2_0 := At.set_same A2_0 (.float .f64 (ofKey (-PI)))
  replace A2_1 := At.set_off (f' := 0) A2_1 (by decide) (.float .f64 (ofKey (-PI)))
  replace A3_0 := At.set_blk (b' := w.heap.size + 1 + 1) (f' := 0) A3_0 (by first | omega | (have := B.size; omega)) (.float .f64 (ofKey (-PI)))
  replace A3_1 := At.set_blk (b' := w.heap.size + 1 + 1) (f' := 0) A3_1 (by first | omega | (have := B.size; omega)) (.float .f64 (ofKey (-PI)))
  replace A0_0 := At.set_blk (b' := w.heap.size + 1 + 1) (f' := 1) A0_0 (by first | omega | (have := B.size; omega)) (.float .f64 (ofKey (y)))
  replace A0_1 := At.set_blk (b' := w.heap.size + 1 + 1) (f' := 1) A0_1 (by first | omega | (have := B.size; omega)) (.float .f64 (ofKey (y)))
  replace A1_0 := At.set_blk (b' := w.heap.size + 1 + 1) (f' := 1) A1_0 (by first | omega | (have := B.size; omega)) (.float .f64 (ofKey (y)))
  replace A1_1 := At.set_blk (b' := w.heap.size + 1 + 1) (f' := 1) A1_1 (by first | omega | (have := B.size; omega)) (.float .f64 (ofKey (y)))
  replace A2_0 := At.set_off (f' := 1) A2_0 (by decide) (.float .f64 (ofKey (y)))
  replace A2_1 := At.set_same A2_1 (.float .f64 (ofKey (y)))
  replace A3_0 := At.set_blk (b' := w.heap.size + 1 + 1) (f' := 1) A3_0 (by first | omega | (have := B.size; omega)) (.float .f64 (ofKey (y)))
  replace A3_1 := At.set_blk (b' := w.heap.size + 1 + 1) (f' := 1) A3_1 (by first | omega | (have := B.size; omega)) (.float .f64 (ofKey (y)))
  have B' : Below w.heap.size w (World.setCell (World.setCell (World.setCell w7 ⟨w3.heap.size, 1, none⟩ (.float .f64 (ofKey (y)))) ⟨w.heap.size + 1 + 1, 0, none⟩ (.float .f64 (ofKey (-PI)))) ⟨w.heap.size + 1 + 1, 1, none⟩ (.float .f64 (ofKey (y)))) := (Below.setCell (Below.setCell (Below.setCell B (p := ⟨w3.heap.size, 1, none⟩) (by first | (show w.heap.size ≤ w3.heap.size; omega) | (have := B.size; show w.heap.size ≤ w3.heap.size; omega)) (.float .f64 (ofKey (y)))) (p := ⟨w.heap.size + 1 + 1, 0, none⟩) (by first | (show w.heap.size ≤ w.heap.size + 1 + 1; omega) | (have := B.size; show w.heap.size ≤ w.heap.size + 1 + 1; omega)) (.float .f64 (ofKey (-PI)))) (p := ⟨w.heap.size + 1 + 1, 1, none⟩) (by first | (show w.heap.size ≤ w.heap.size + 1 + 1; omega) | (have := B.size; show w.heap.size ≤ w.heap.size + 1 + 1; omega)) (.float .f64 (ofKey (y))))
  clear B
  obtain ⟨wz, hwz⟩ : ∃ wz, wz = (World.setCell (World.setCell (World.setCell w7 ⟨w3.heap.size, 1, none⟩ (.float .f64 (ofKey (y)))) ⟨w.heap.size + 1 + 1, 0, none⟩ (.float .f64 (ofKey (-PI)))) ⟨w.heap.size + 1 + 1, 1, none⟩ (.float .f64 (ofKey (y)))) := ⟨_, rfl⟩
  rw [← hwz]
  replace A0_0 := At.of A0_0 hwz
  replace A0_1 := At.of A0_1 hwz
  replace A1_0 := At.of A1_0 hwz
  replace A1_1 := At.of A1_1 hwz
  replace A2_0 := At.of A2_0 hwz
  replace A2_1 := At.of A2_1 hwz
  replace A3_0 := At.of A3_0 hwz
  replace A3_1 := At.of A3_1 hwz
  have B := below_of B' hwz
  clear B' hwz
  have F0_0 := A0_0.1; have G0_0 := A0_0.2
  have F0_1 := A0_1.1; have G0_1 := A0_1.2
  have F1_0 := A1_0.1; have G1_0 := A1_0.2
  have F1_1 := A1_1.1; have G1_1 := A1_1.2
  have F2_0 := A2_0.1; have G2_0 := A2_0.2
  have F2_1 := A2_1.1; have G2_1 := A2_1.2
  have F3_0 := A3_0.1; have G3_0 := A3_0.2
  have F3_1 := A3_1.1; have G3_1 := A3_1.2
  have Z0 := A0_0.lt
  have Z1 := A1_0.lt
  have Z2 := A2_0.lt
  have Z3 := A3_0.lt
  refine bodyPost_ret (v := .agg #[.float .f64 (ofKey (-PI)), .float .f64 (ofKey (y))]) (by simp [results, Try.results34, go_sem, F2_0, F2_1]) rfl ⟨rfl, ?_⟩
  exact B

set_option maxHeartbeats 1000000 in
theorem div_p3zNP (a b c d : Int) (ha : Rg a) (hb : Rg b) (hc : Rg c) (hd : Rg d) (h0 : 0 ≤ c) (h1 : 0 < d) (hAB : (decide (a = 0) && decide (b = 0)) = false) (h2 : c = 0) (h4 : a < 0) (h5 : 0 < b) (w : World) :
    Calls Try.prog 34 #[.agg #[.float .f64 (ofKey (a)), .float .f64 (ofKey (b))], .agg #[.float .f64 (ofKey (c)), .float .f64 (ofKey (d))]] w fun e w' => e = .returned (.agg #[.float .f64 (ofKey (-PI)), .float .f64 (ofKey (PI))]) ∧ Below w.heap.size w w' := by
  have he := eqiv
  have hP := PI_pos
  have q1 := ha.1; have q2 := ha.2; have q3 := hb.1; have q4 := hb.2; have q5 := hc.1; have q6 := hc.2; have q7 := hd.1; have q8 := hd.2
  have dD : decide (d = 0) = false := decide_eq_false (by omega)
  have dp : decide (0 < c) = false := decide_eq_false (by omega)
  clear h2
  go_enter Try.func34, Try.ntmps34
  go_wp2_with fail
  have A0_0 : At (World.alloc (World.alloc (World.alloc w (.cells #[.float .f64 (ofKey (a)), .float .f64 (ofKey (b))] 27)) (.cells #[.float .f64 (ofKey (c)), .float .f64 (ofKey (d))] 27)) (.cells #[.float .f64 (0), .float .f64 (0)] 27)) (w.heap.size) 0 (.float .f64 (ofKey (a))) := ⟨by simp [go_sem], by simp [go_sem]⟩
  have A0_1 : At (World.alloc (World.alloc (World.alloc w (.cells #[.float .f64 (ofKey (a)), .float .f64 (ofKey (b))] 27)) (.cells #[.float .f64 (ofKey (c)), .float .f64 (ofKey (d))] 27)) (.cells #[.float .f64 (0), .float .f64 (0)] 27)) (w.heap.size) 1 (.float .f64 (ofKey (b))) := ⟨by simp [go_sem], by simp [go_sem]⟩
  have A1_0 : At (World.alloc (World.alloc (World.alloc w (.cells #[.float .f64 (ofKey (a)), .float .f64 (ofKey (b))] 27)) (.cells #[.float .f64 (ofKey (c)), .float .f64 (ofKey (d))] 27)) (.cells #[.float .f64 (0), .float .f64 (0)] 27)) (w.heap.size + 1) 0 (.float .f64 (ofKey (c))) := ⟨by simp [go_sem], by simp [go_sem]⟩
  have A1_1 : At (World.alloc (World.alloc (World.alloc w (.cells #[.float .f64 (ofKey (a)), .float .f64 (ofKey (b))] 27)) (.cells #[.float .f64 (ofKey (c)), .float .f64 (ofKey (d))] 27)) (.cells #[.float .f64 (0), .float .f64 (0)] 27)) (w.heap.size + 1) 1 (.float .f64 (ofKey (d))) := ⟨by simp [go_sem], by simp [go_sem]⟩
  have A2_0 : At (World.alloc (World.alloc (World.alloc w (.cells #[.float .f64 (ofKey (a)), .float .f64 (ofKey (b))] 27)) (.cells #[.float .f64 (ofKey (c)), .float .f64 (ofKey (d))] 27)) (.cells #[.float .f64 (0), .float .f64 (0)] 27)) (w.heap.size + 1 + 1) 0 (.float .f64 (0)) := ⟨by simp [go_sem], by simp [go_sem]⟩
  have A2_1 : At (World.alloc (World.alloc (World.alloc w (.cells #[.float .f64 (ofKey (a)), .float .f64 (ofKey (b))] 27)) (.cells #[.float .f64 (ofKey (c)), .float .f64 (ofKey (d))] 27)) (.cells #[.float .f64 (0), .float .f64 (0)] 27)) (w.heap.size + 1 + 1) 1 (.float .f64 (0)) := ⟨by simp [go_sem], by simp [go_sem]⟩
  have k0_0 := cell_regrown A0_0.1
  have k0_1 := cell_regrown A0_1.1
  have k1_0 := cell_regrown A1_0.1
  have k1_1 := cell_regrown A1_1.1
  have k2_0 := cell_regrown A2_0.1
  have k2_1 := cell_regrown A2_1.1
  refine wp_region_below (by kernel_rfl) (by kernel_rfl) ?_
  repeat (go_big_quiet_step ((go_at_call 48; exact Calls.regrown_of (ivlzero_any _))))
  refine wpQuiet_nil (fun w1 hbw1 => ?_)
  clear k0_0 k0_1 k1_0 k1_1 k2_0 k2_1
  replace A0_0 := At.below A0_0 hbw1
  replace A0_1 := At.below A0_1 hbw1
  replace A1_0 := At.below A1_0 hbw1
  replace A1_1 := At.below A1_1 hbw1
  replace A2_0 := At.below A2_0 hbw1
  replace A2_1 := At.below A2_1 hbw1
  have B := below_alloc (below_alloc (below_alloc (hbw1)))
  clear hbw1
  have F0_0 := A0_0.1; have G0_0 := A0_0.2
  have F0_1 := A0_1.1; have G0_1 := A0_1.2
  have F1_0 := A1_0.1; have G1_0 := A1_0.2
  have F1_1 := A1_1.1; have G1_1 := A1_1.2
  have F2_0 := A2_0.1; have G2_0 := A2_0.2
  have F2_1 := A2_1.1; have G2_1 := A2_1.2
  have Z0 := A0_0.lt
  have Z1 := A1_0.lt
  have Z2 := A2_0.lt
  go_wp2_with fail
  have k0_0 := cell_regrown A0_0.1
  have k0_1 := cell_regrown A0_1.1
  have k1_0 := cell_regrown A1_0.1
  have k1_1 := cell_regrown A1_1.1
  have k2_0 := cell_regrown A2_0.1
  have k2_1 := cell_regrown A2_1.1
  refine wp_region_below (by kernel_rfl) (by kernel_rfl) ?_
  repeat (go_big_quiet_step ((go_at_call 48; exact Calls.regrown_of (ivlzero_any _))))
  refine wpQuiet_nil (fun w2 hbw2 => ?_)
  clear k0_0 k0_1 k1_0 k1_1 k2_0 k2_1
  clear F0_0 G0_0 F0_1 G0_1 F1_0 G1_0 F1_1 G1_1 F2_0 G2_0 F2_1 G2_1 Z0 Z1 Z2
  replace A0_0 := At.below (A0_0) hbw2
  replace A0_1 := At.below (A0_1) hbw2
  replace A1_0 := At.below (A1_0) hbw2
  replace A1_1 := At.below (A1_1) hbw2
  replace A2_0 := At.below (A2_0) hbw2
  replace A2_1 := At.below (A2_1) hbw2
  replace B := below_step B B.size (hbw2)
  clear hbw2
  have F0_0 := A0_0.1; have G0_0 := A0_0.2
  have F0_1 := A0_1.1; have G0_1 := A0_1.2
  have F1_0 := A1_0.1; have G1_0 := A1_0.2
  have F1_1 := A1_1.1; have G1_1 := A1_1.2
  have F2_0 := A2_0.1; have G2_0 := A2_0.2
  have F2_1 := A2_1.1; have G2_1 := A2_1.2
  have Z0 := A0_0.lt
  have Z1 := A1_0.lt
  have Z2 := A2_0.lt
  go_wp2_with fail
  have k0_0 := cell_regrown A0_0.1
  have k0_1 := cell_regrown A0_1.1
  have k1_0 := cell_regrown A1_0.1
  have k1_1 := cell_regrown A1_1.1
  have k2_0 := cell_regrown A2_0.1
  have k2_1 := cell_regrown A2_1.1
  refine wp_region_below (by kernel_rfl) (by kernel_rfl) ?_
  repeat (go_big_quiet_step ((go_at_call 24; exact quiet_same (ivlinf_any _))))
  refine wpQuiet_nil (fun w3 hbw3 => ?_)
  clear k0_0 k0_1 k1_0 k1_1 k2_0 k2_1
  clear F0_0 G0_0 F0_1 G0_1 F1_0 G1_0 F1_1 G1_1 F2_0 G2_0 F2_1 G2_1 Z0 Z1 Z2
  replace A0_0 := At.below (A0_0) hbw3
  replace A0_1 := At.below (A0_1) hbw3
  replace A1_0 := At.below (A1_0) hbw3
  replace A1_1 := At.below (A1_1) hbw3
  replace A2_0 := At.below (A2_0) hbw3
  replace A2_1 := At.below (A2_1) hbw3
  replace B := below_step B B.size (hbw3)
  clear hbw3
  have F0_0 := A0_0.1; have G0_0 := A0_0.2
  have F0_1 := A0_1.1; have G0_1 := A0_1.2
  have F1_0 := A1_0.1; have G1_0 := A1_0.2
  have F1_1 := A1_1.1; have G1_1 := A1_1.2
  have F2_0 := A2_0.1; have G2_0 := A2_0.2
  have F2_1 := A2_1.1; have G2_1 := A2_1.2
  have Z0 := A0_0.lt
  have Z1 := A1_0.lt
  have Z2 := A2_0.lt
  go_wp2_with (go_at_call 24; refine (ivlinf_any _).mono ?_; rintro e w' ⟨rfl, rfl⟩)
  clear F0_0 G0_0 F0_1 G0_1 F1_0 G1_0 F1_1 G1_1 F2_0 G2_0 F2_1 G2_1 Z0 Z1 Z2
  replace A0_0 := At.set_blk (b' := w.heap.size + 1 + 1) (f' := 0) A0_0 (by first | omega | (have := B.size; omega)) (.float .f64 (ofKey (-PI)))
  replace A0_1 := At.set_blk (b' := w.heap.size + 1 + 1) (f' := 0) A0_1 (by first | omega | (have := B.size; omega)) (.float .f64 (ofKey (-PI)))
  replace A1_0 := At.set_blk (b' := w.heap.size + 1 + 1) (f' := 0) A1_0 (by first | omega | (have := B.size; omega)) (.float .f64 (ofKey (-PI)))
  replace A1_1 := At.set_blk (b' := w.heap.size + 1 + 1) (f' := 0) A1_1 (by first | omega | (have := B.size; omega)) (.float .f64 (ofKey (-PI)))
  replace A2_0 := At.set_same A2_0 (.float .f64 (ofKey (-PI)))
  replace A2_1 := At.set_off (f' := 0) A2_1 (by decide) (.float .f64 (ofKey (-PI)))
  replace A0_0 := At.set_blk (b' := w.heap.size + 1 + 1) (f' := 1) A0_0 (by first | omega | (have := B.size; omega)) (.float .f64 (ofKey (PI)))
  replace A0_1 := At.set_blk (b' := w.heap.size + 1 + 1) (f' := 1) A0_1 (by first | omega | (have := B.size; omega)) (.float .f64 (ofKey (PI)))
  replace A1_0 := At.set_blk (b' := w.heap.size + 1 + 1) (f' := 1) A1_0 (by first | omega | (have := B.size; omega)) (.float .f64 (ofKey (PI)))
  replace A1_1 := At.set_blk (b' := w.heap.size + 1 + 1) (f' := 1) A1_1 (by first | omega | (have := B.size; omega)) (.float .f64 (ofKey (PI)))
  replace A2_0 := At.set_off (f' := 1) A2_0 (by decide) (.float .f64 (ofKey (PI)))
  replace A2_1 := At.set_same A2_1 (.float .f64 (ofKey (PI)))
  have n1 : w.heap.size < w3.heap.size := by simpa only [World.size_setCell] using At.lt A0_0
  have n2 : w.heap.size + 1 < w3.heap.size := by simpa only [World.size_setCell] using At.lt A1_0
  have n3 : w.heap.size + 1 + 1 < w3.heap.size := by simpa only [World.size_setCell] using At.lt A2_0
  replace A0_0 : At (World.alloc (World.setCell (World.setCell w3 ⟨w.heap.size + 1 + 1, 0, none⟩ (.float .f64 (ofKey (-PI)))) ⟨w.heap.size + 1 + 1, 1, none⟩ (.float .f64 (ofKey (PI)))) (.cells #[.float .f64 (ofKey (-PI)), .float .f64 (ofKey (PI))] 27)) _ _ _ := At.alloc (A0_0)
  replace A0_1 : At (World.alloc (World.setCell (World.setCell w3 ⟨w.heap.size + 1 + 1, 0, none⟩ (.float .f64 (ofKey (-PI)))) ⟨w.heap.size + 1 + 1, 1, none⟩ (.float .f64 (ofKey (PI)))) (.cells #[.float .f64 (ofKey (-PI)), .float .f64 (ofKey (PI))] 27)) _ _ _ := At.alloc (A0_1)
  replace A1_0 : At (World.alloc (World.setCell (World.setCell w3 ⟨w.heap.size + 1 + 1, 0, none⟩ (.float .f64 (ofKey (-PI)))) ⟨w.heap.size + 1 + 1, 1, none⟩ (.float .f64 (ofKey (PI)))) (.cells #[.float .f64 (ofKey (-PI)), .float .f64 (ofKey (PI))] 27)) _ _ _ := At.alloc (A1_0)
  replace A1_1 : At (World.alloc (World.setCell (World.setCell w3 ⟨w.heap.size + 1 + 1, 0, none⟩ (.float .f64 (ofKey (-PI)))) ⟨w.heap.size + 1 + 1, 1, none⟩ (.float .f64 (ofKey (PI)))) (.cells #[.float .f64 (ofKey (-PI)), .float .f64 (ofKey (PI))] 27)) _ _ _ := At.alloc (A1_1)
  replace A2_0 : At (World.alloc (World.setCell (World.setCell w3 ⟨w.heap.size + 1 + 1, 0, none⟩ (.float .f64 (ofKey (-PI)))) ⟨w.heap.size + 1 + 1, 1, none⟩ (.float .f64 (ofKey (PI)))) (.cells #[.float .f64 (ofKey (-PI)), .float .f64 (ofKey (PI))] 27)) _ _ _ := At.alloc (A2_0)
  replace A2_1 : At (World.alloc (World.setCell (World.setCell w3 ⟨w.heap.size + 1 + 1, 0, none⟩ (.float .f64 (ofKey (-PI)))) ⟨w.heap.size + 1 + 1, 1, none⟩ (.float .f64 (ofKey (PI)))) (.cells #[.float .f64 (ofKey (-PI)), .float .f64 (ofKey (PI))] 27)) _ _ _ := At.alloc (A2_1)
  have A3_0 : At (World.alloc (World.setCell (World.setCell w3 ⟨w.heap.size + 1 + 1, 0, none⟩ (.float .f64 (ofKey (-PI)))) ⟨w.heap.size + 1 + 1, 1, none⟩ (.float .f64 (ofKey (PI)))) (.cells #[.float .f64 (ofKey (-PI)), .float .f64 (ofKey (PI))] 27)) (w3.heap.size) 0 (.float .f64 (ofKey (-PI))) := ⟨by simp [go_sem], by simp [go_sem]⟩
  have A3_1 : At (World.alloc (World.setCell (World.setCell w3 ⟨w.heap.size + 1 + 1, 0, none⟩ (.float .f64 (ofKey (-PI)))) ⟨w.heap.size + 1 + 1, 1, none⟩ (.float .f64 (ofKey (PI)))) (.cells #[.float .f64 (ofKey (-PI)), .float .f64 (ofKey (PI))] 27)) (w3.heap.size) 1 (.float .f64 (ofKey (PI))) := ⟨by simp [go_sem], by simp [go_sem]⟩
  have B' : Below w.heap.size w (World.alloc (World.setCell (World.setCell w3 ⟨w.heap.size + 1 + 1, 0, none⟩ (.float .f64 (ofKey (-PI)))) ⟨w.heap.size + 1 + 1, 1, none⟩ (.float .f64 (ofKey (PI)))) (.cells #[.float .f64 (ofKey (-PI)), .float .f64 (ofKey (PI))] 27)) := (Below.alloc (Below.setCell (Below.setCell B (p := ⟨w.heap.size + 1 + 1, 0, none⟩) (by first | (show w.heap.size ≤ w.heap.size + 1 + 1; omega) | (have := B.size; show w.heap.size ≤ w.heap.size + 1 + 1; omega)) (.float .f64 (ofKey (-PI)))) (p := ⟨w.heap.size + 1 + 1, 1, none⟩) (by first | (show w.heap.size ≤ w.heap.size + 1 + 1; omega) | (have := B.size; show w.heap.size ≤ w.heap.size + 1 + 1; omega)) (.float .f64 (ofKey (PI)))) (by first | exact B.size | (simp only [World.size_setCell, World.size_alloc]; have := B.size; omega)) _)
  clear B
  obtain ⟨wz, hwz⟩ : ∃ wz, wz = (World.alloc (World.setCell (World.setCell w3 ⟨w.heap.size + 1 + 1, 0, none⟩ (.float .f64 (ofKey (-PI)))) ⟨w.heap.size + 1 + 1, 1, none⟩ (.float .f64 (ofKey (PI)))) (.cells #[.float .f64 (ofKey (-PI)), .float .f64 (ofKey (PI))] 27)) := ⟨_, rfl⟩
  rw [← hwz]
  replace A0_0 := At.of A0_0 hwz
  replace A0_1 := At.of A0_1 hwz
  replace A1_0 := At.of A1_0 hwz
  replace A1_1 := At.of A1_1 hwz
  replace A2_0 := At.of A2_0 hwz
  replace A2_1 := At.of A2_1 hwz
  replace A3_0 := At.of A3_0 hwz
  replace A3_1 := At.of A3_1 hwz
  have B := below_of B' hwz
  clear B' hwz
  have F0_0 := A0_0.1; have G0_0 := A0_0.2
  have F0_1 := A0_1.1; have G0_1 := A0_1.2
  have F1_0 := A1_0.1; have G1_0 := A1_0.2
  have F1_1 := A1_1.1; have G1_1 := A1_1.2
  have F2_0 := A2_0.1; have G2_0 := A2_0.2
  have F2_1 := A2_1.1; have G2_1 := A2_1.2
  have F3_0 := A3_0.1; have G3_0 := A3_0.2
  have F3_1 := A3_1.1; have G3_1 := A3_1.2
  have Z0 := A0_0.lt
  have Z1 := A1_0.lt
  have Z2 := A2_0.lt
  have Z3 := A3_0.lt
  refine bodyPost_ret (v := .agg #[.float .f64 (ofKey (-PI)), .float .f64 (ofKey (PI))]) (by simp [results, Try.results34, go_sem, F2_0, F2_1]) rfl ⟨rfl, ?_⟩
  exact B

set_option maxHeartbeats 1000000 in
theorem div_p3iPN (a b c d : Int) (ha : Rg a) (hb : Rg b) (hc : Rg c) (hd : Rg d) (h0 : 0 ≤ c) (h1 : 0 < d) (hAB : (decide (a = 0) && decide (b = 0)) = false) (h2 : 0 < c) (h3 : d = PI) (h4 : 0 ≤ a) (h5 : b ≤ 0) (w : World) :
    Calls Try.prog 34 #[.agg #[.float .f64 (ofKey (a)), .float .f64 (ofKey (b))], .agg #[.float .f64 (ofKey (c)), .float .f64 (ofKey (d))]] w fun e w' => e = .returned (.agg #[.float .f64 (ofKey (endK 9 a d false)), .float .f64 (ofKey (endK 9 b d true))]) ∧ Below w.heap.size w w' := by
  have he := eqiv
  have hP := PI_pos
  have q1 := ha.1; have q2 := ha.2; have q3 := hb.1; have q4 := hb.2; have q5 := hc.1; have q6 := hc.2; have q7 := hd.1; have q8 := hd.2
  have dD : decide (d = 0) = false := decide_eq_false (by omega)
  have dI : decide (d < PI) = false := decide_eq_false (by omega)
  have dp : decide (0 < c) = true := decide_eq_true (by omega)
  have EL := Lib.hid (fun w => ivlend_any 9 a d false ha hd (.inr (.inr ⟨rfl, by omega⟩)) w)
  generalize endK 9 a d false = x at *
  have EH := Lib.hid (fun w => ivlend_any 9 b d true hb hd (.inr (.inr ⟨rfl, by omega⟩)) w)
  generalize endK 9 b d true = y at *
  clear h3
  go_enter Try.func34, Try.ntmps34
  go_wp2_with fail
  have A0_0 : At (World.alloc (World.alloc (World.alloc w (.cells #[.float .f64 (ofKey (a)), .float .f64 (ofKey (b))] 27)) (.cells #[.float .f64 (ofKey (c)), .float .f64 (ofKey (d))] 27)) (.cells #[.float .f64 (0), .float .f64 (0)] 27)) (w.heap.size) 0 (.float .f64 (ofKey (a))) := ⟨by simp [go_sem], by simp [go_sem]⟩
  have A0_1 : At (World.alloc (World.alloc (World.alloc w (.cells #[.float .f64 (ofKey (a)), .float .f64 (ofKey (b))] 27)) (.cells #[.float .f64 (ofKey (c)), .float .f64 (ofKey (d))] 27)) (.cells #[.float .f64 (0), .float .f64 (0)] 27)) (w.heap.size) 1 (.float .f64 (ofKey (b))) := ⟨by simp [go_sem], by simp [go_sem]⟩
  have A1_0 : At (World.alloc (World.alloc (World.alloc w (.cells #[.float .f64 (ofKey (a)), .float .f64 (ofKey (b))] 27)) (.cells #[.float .f64 (ofKey (c)), .float .f64 (ofKey (d))] 27)) (.cells #[.float .f64 (0), .float .f64 (0)] 27)) (w.heap.size + 1) 0 (.float .f64 (ofKey (c))) := ⟨by simp [go_sem], by simp [go_sem]⟩
  have A1_1 : At (World.alloc (World.alloc (World.alloc w (.cells #[.float .f64 (ofKey (a)), .float .f64 (ofKey (b))] 27)) (.cells #[.float .f64 (ofKey (c)), .float .f64 (ofKey (d))] 27)) (.cells #[.float .f64 (0), .float .f64 (0)] 27)) (w.heap.size + 1) 1 (.float .f64 (ofKey (d))) := ⟨by simp [go_sem], by simp [go_sem]⟩
  have A2_0 : At (World.alloc (World.alloc (World.alloc w (.cells #[.float .f64 (ofKey (a)), .float .f64 (ofKey (b))] 27)) (.cells #[.float .f64 (ofKey (c)), .float .f64 (ofKey (d))] 27)) (.cells #[.float .f64 (0), .float .f64 (0)] 27)) (w.heap.size + 1 + 1) 0 (.float .f64 (0)) := ⟨by simp [go_sem], by simp [go_sem]⟩
  have A2_1 : At (World.alloc (World.alloc (World.alloc w (.cells #[.float .f64 (ofKey (a)), .float .f64 (ofKey (b))] 27)) (.cells #[.float .f64 (ofKey (c)), .float .f64 (ofKey (d))] 27)) (.cells #[.float .f64 (0), .float .f64 (0)] 27)) (w.heap.size + 1 + 1) 1 (.float .f64 (0)) := ⟨by simp [go_sem], by simp [go_sem]⟩
  have k0_0 := cell_regrown A0_0.1
  have k0_1 := cell_regrown A0_1.1
  have k1_0 := cell_regrown A1_0.1
  have k1_1 := cell_regrown A1_1.1
  have k2_0 := cell_regrown A2_0.1
  have k2_1 := cell_regrown A2_1.1
  refine wp_region_below (by kernel_rfl) (by kernel_rfl) ?_
  repeat (go_big_quiet_step ((go_at_call 48; exact Calls.regrown_of (ivlzero_any _))))
  refine wpQuiet_nil (fun w1 hbw1 => ?_)
  clear k0_0 k0_1 k1_0 k1_1 k2_0 k2_1
  replace A0_0 := At.below A0_0 hbw1
  replace A0_1 := At.below A0_1 hbw1
  replace A1_0 := At.below A1_0 hbw1
  replace A1_1 := At.below A1_1 hbw1
  replace A2_0 := At.below A2_0 hbw1
  replace A2_1 := At.below A2_1 hbw1
  have B := below_alloc (below_alloc (below_alloc (hbw1)))
  clear hbw1
  have F0_0 := A0_0.1; have G0_0 := A0_0.2
  have F0_1 := A0_1.1; have G0_1 := A0_1.2
  have F1_0 := A1_0.1; have G1_0 := A1_0.2
  have F1_1 := A1_1.1; have G1_1 := A1_1.2
  have F2_0 := A2_0.1; have G2_0 := A2_0.2
  have F2_1 := A2_1.1; have G2_1 := A2_1.2
  have Z0 := A0_0.lt
  have Z1 := A1_0.lt
  have Z2 := A2_0.lt
  go_wp2_with fail
  have k0_0 := cell_regrown A0_0.1
  have k0_1 := cell_regrown A0_1.1
  have k1_0 := cell_regrown A1_0.1
  have k1_1 := cell_regrown A1_1.1
  have k2_0 := cell_regrown A2_0.1
  have k2_1 := cell_regrown A2_1.1
  refine wp_region_below (by kernel_rfl) (by kernel_rfl) ?_
  repeat (go_big_quiet_step ((go_at_call 48; exact Calls.regrown_of (ivlzero_any _))))
  refine wpQuiet_nil (fun w2 hbw2 => ?_)
  clear k0_0 k0_1 k1_0 k1_1 k2_0 k2_1
  clear F0_0 G0_0 F0_1 G0_1 F1_0 G1_0 F1_1 G1_1 F2_0 G2_0 F2_1 G2_1 Z0 Z1 Z2
  replace A0_0 := At.below (A0_0) hbw2
  replace A0_1 := At.below (A0_1) hbw2
  replace A1_0 := At.below (A1_0) hbw2
  replace A1_1 := At.below (A1_1) hbw2
  replace A2_0 := At.below (A2_0) hbw2
  replace A2_1 := At.below (A2_1) hbw2
  replace B := below_step B B.size (hbw2)
  clear hbw2
  have F0_0 := A0_0.1; have G0_0 := A0_0.2
  have F0_1 := A0_1.1; have G0_1 := A0_1.2
  have F1_0 := A1_0.1; have G1_0 := A1_0.2
  have F1_1 := A1_1.1; have G1_1 := A1_1.2
  have F2_0 := A2_0.1; have G2_0 := A2_0.2
  have F2_1 := A2_1.1; have G2_1 := A2_1.2
  have Z0 := A0_0.lt
  have Z1 := A1_0.lt
  have Z2 := A2_0.lt
  go_wp2_with fail
  have k0_0 := cell_regrown A0_0.1
  have k0_1 := cell_regrown A0_1.1
  have k1_0 := cell_regrown A1_0.1
  have k1_1 := cell_regrown A1_1.1
  have k2_0 := cell_regrown A2_0.1
  have k2_1 := cell_regrown A2_1.1
  refine wp_region_below (by kernel_rfl) (by kernel_rfl) ?_
  repeat (go_big_quiet_step ((go_at_call 24; exact quiet_same (ivlinf_any _))))
  refine wpQuiet_nil (fun w3 hbw3 => ?_)
  clear k0_0 k0_1 k1_0 k1_1 k2_0 k2_1
  clear F0_0 G0_0 F0_1 G0_1 F1_0 G1_0 F1_1 G1_1 F2_0 G2_0 F2_1 G2_1 Z0 Z1 Z2
  replace A0_0 := At.below (A0_0) hbw3
  replace A0_1 := At.below (A0_1) hbw3
  replace A1_0 := At.below (A1_0) hbw3
  replace A1_1 := At.below (A1_1) hbw3
  replace A2_0 := At.below (A2_0) hbw3
  replace A2_1 := At.below (A2_1) hbw3
  replace B := below_step B B.size (hbw3)
  clear hbw3
  have F0_0 := A0_0.1; have G0_0 := A0_0.2
  have F0_1 := A0_1.1; have G0_1 := A0_1.2
  have F1_0 := A1_0.1; have G1_0 := A1_0.2
  have F1_1 := A1_1.1; have G1_1 := A1_1.2
  have F2_0 := A2_0.1; have G2_0 := A2_0.2
  have F2_1 := A2_1.1; have G2_1 := A2_1.2
  have Z0 := A0_0.lt
  have Z1 := A1_0.lt
  have Z2 := A2_0.lt
  go_wp2_with (go_at_call 24; refine (ivlinf_any _).mono ?_; rintro e w' ⟨rfl, rfl⟩)
  clear F0_0 G0_0 F0_1 G0_1 F1_0 G1_0 F1_1 G1_1 F2_0 G2_0 F2_1 G2_1 Z0 Z1 Z2
  have n1 : w.heap.size < w3.heap.size := by simpa only [World.size_setCell] using At.lt A0_0
  have n2 : w.heap.size + 1 < w3.heap.size := by simpa only [World.size_setCell] using At.lt A1_0
  have n3 : w.heap.size + 1 + 1 < w3.heap.size := by simpa only [World.size_setCell] using At.lt A2_0
  replace A0_0 : At (World.alloc w3 (.cells #[.float .f64 (ofKey (-PI)), .float .f64 (ofKey (PI))] 27)) _ _ _ := At.alloc (A0_0)
  replace A0_1 : At (World.alloc w3 (.cells #[.float .f64 (ofKey (-PI)), .float .f64 (ofKey (PI))] 27)) _ _ _ := At.alloc (A0_1)
  replace A1_0 : At (World.alloc w3 (.cells #[.float .f64 (ofKey (-PI)), .float .f64 (ofKey (PI))] 27)) _ _ _ := At.alloc (A1_0)
  replace A1_1 : At (World.alloc w3 (.cells #[.float .f64 (ofKey (-PI)), .float .f64 (ofKey (PI))] 27)) _ _ _ := At.alloc (A1_1)
  replace A2_0 : At (World.alloc w3 (.cells #[.float .f64 (ofKey (-PI)), .float .f64 (ofKey (PI))] 27)) _ _ _ := At.alloc (A2_0)
  replace A2_1 : At (World.alloc w3 (.cells #[.float .f64 (ofKey (-PI)), .float .f64 (ofKey (PI))] 27)) _ _ _ := At.alloc (A2_1)
  have A3_0 : At (World.alloc w3 (.cells #[.float .f64 (ofKey (-PI)), .float .f64 (ofKey (PI))] 27)) (w3.heap.size) 0 (.float .f64 (ofKey (-PI))) := ⟨by simp [go_sem], by simp [go_sem]⟩
  have A3_1 : At (World.alloc w3 (.cells #[.float .f64 (ofKey (-PI)), .float .f64 (ofKey (PI))] 27)) (w3.heap.size) 1 (.float .f64 (ofKey (PI))) := ⟨by simp [go_sem], by simp [go_sem]⟩
  have B' : Below w.heap.size w (World.alloc w3 (.cells #[.float .f64 (ofKey (-PI)), .float .f64 (ofKey (PI))] 27)) := (Below.alloc B (by first | exact B.size | (simp only [World.size_setCell, World.size_alloc]; have := B.size; omega)) _)
  clear B
  obtain ⟨w4, hw4⟩ : ∃ w4, w4 = (World.alloc w3 (.cells #[.float .f64 (ofKey (-PI)), .float .f64 (ofKey (PI))] 27)) := ⟨_, rfl⟩
  rw [← hw4]
  replace A0_0 := At.of A0_0 hw4
  replace A0_1 := At.of A0_1 hw4
  replace A1_0 := At.of A1_0 hw4
  replace A1_1 := At.of A1_1 hw4
  replace A2_0 := At.of A2_0 hw4
  replace A2_1 := At.of A2_1 hw4
  replace A3_0 := At.of A3_0 hw4
  replace A3_1 := At.of A3_1 hw4
  have B := below_of B' hw4
  clear B' hw4
  have F0_0 := A0_0.1; have G0_0 := A0_0.2
  have F0_1 := A0_1.1; have G0_1 := A0_1.2
  have F1_0 := A1_0.1; have G1_0 := A1_0.2
  have F1_1 := A1_1.1; have G1_1 := A1_1.2
  have F2_0 := A2_0.1; have G2_0 := A2_0.2
  have F2_1 := A2_1.1; have G2_1 := A2_1.2
  have F3_0 := A3_0.1; have G3_0 := A3_0.2
  have F3_1 := A3_1.1; have G3_1 := A3_1.2
  have Z0 := A0_0.lt
  have Z1 := A1_0.lt
  have Z2 := A2_0.lt
  have Z3 := A3_0.lt
  refine (EL.out _).mono ?_
  rintro e w5 ⟨rfl, hbw5⟩
  clear F0_0 G0_0 F0_1 G0_1 F1_0 G1_0 F1_1 G1_1 F2_0 G2_0 F2_1 G2_1 F3_0 G3_0 F3_1 G3_1 Z0 Z1 Z2 Z3
  replace A0_0 := At.below (A0_0) hbw5
  replace A0_1 := At.below (A0_1) hbw5
  replace A1_0 := At.below (A1_0) hbw5
  replace A1_1 := At.below (A1_1) hbw5
  replace A2_0 := At.below (A2_0) hbw5
  replace A2_1 := At.below (A2_1) hbw5
  replace A3_0 := At.below (A3_0) hbw5
  replace A3_1 := At.below (A3_1) hbw5
  replace B := below_step B B.size (hbw5)
  clear hbw5
  have F0_0 := A0_0.1; have G0_0 := A0_0.2
  have F0_1 := A0_1.1; have G0_1 := A0_1.2
  have F1_0 := A1_0.1; have G1_0 := A1_0.2
  have F1_1 := A1_1.1; have G1_1 := A1_1.2
  have F2_0 := A2_0.1; have G2_0 := A2_0.2
  have F2_1 := A2_1.1; have G2_1 := A2_1.2
  have F3_0 := A3_0.1; have G3_0 := A3_0.2
  have F3_1 := A3_1.1; have G3_1 := A3_1.2
  have Z0 := A0_0.lt
  have Z1 := A1_0.lt
  have Z2 := A2_0.lt
  have Z3 := A3_0.lt
  go_wp2_with fail
  clear F0_0 G0_0 F0_1 G0_1 F1_0 G1_0 F1_1 G1_1 F2_0 G2_0 F2_1 G2_1 F3_0 G3_0 F3_1 G3_1 Z0 Z1 Z2 Z3
  replace A0_0 := At.set_blk (b' := w3.heap.size) (f' := 0) A0_0 (by first | omega | (have := B.size; omega)) (.float .f64 (ofKey (x)))
  replace A0_1 := At.set_blk (b' := w3.heap.size) (f' := 0) A0_1 (by first | omega | (have := B.size; omega)) (.float .f64 (ofKey (x)))
  replace A1_0 := At.set_blk (b' := w3.heap.size) (f' := 0) A1_0 (by first | omega | (have := B.size; omega)) (.float .f64 (ofKey (x)))
  replace A1_1 := At.set_blk (b' := w3.heap.size) (f' := 0) A1_1 (by first | omega | (have := B.size; omega)) (.float .f64 (ofKey (x)))
  replace A2_0 := At.set_blk (b' := w3.heap.size) (f' := 0) A2_0 (by first | omega | (have := B.size; omega)) (.float .f64 (ofKey (x)))
  replace A2_1 := At.set_blk (b' := w3.heap.size) (f' := 0) A2_1 (by first | omega | (have := B.size; omega)) (.float .f64 (ofKey (x)))
  replace A3_0 := At.set_same A3_0 (.float .f64 (ofKey (x)))
  replace A3_1 := At.set_off (f' := 0) A3_1 (by decide) (.float .f64 (ofKey (x)))
  have B' : Below w.heap.size w (World.setCell w5 ⟨w3.heap.size, 0, none⟩ (.float .f64 (ofKey (x)))) := (Below.setCell B (p := ⟨w3.heap.size, 0, none⟩) (by first | (show w.heap.size ≤ w3.heap.size; omega) | (have := B.size; show w.heap.size ≤ w3.heap.size; omega)) (.float .f64 (ofKey (x))))
  clear B
  obtain ⟨w6, hw6⟩ : ∃ w6, w6 = (World.setCell w5 ⟨w3.heap.size, 0, none⟩ (.float .f64 (ofKey (x)))) := ⟨_, rfl⟩
  rw [← hw6]
  replace A0_0 := At.of A0_0 hw6
  replace A0_1 := At.of A0_1 hw6
  replace A1_0 := At.of A1_0 hw6
  replace A1_1 := At.of A1_1 hw6
  replace A2_0 := At.of A2_0 hw6
  replace A2_1 := At.of A2_1 hw6
  replace A3_0 := At.of A3_0 hw6
  replace A3_1 := At.of A3_1 hw6
  have B := below_of B' hw6
  clear B' hw6
  have F0_0 := A0_0.1; have G0_0 := A0_0.2
  have F0_1 := A0_1.1; have G0_1 := A0_1.2
  have F1_0 := A1_0.1; have G1_0 := A1_0.2
  have F1_1 := A1_1.1; have G1_1 := A1_1.2
  have F2_0 := A2_0.1; have G2_0 := A2_0.2
  have F2_1 := A2_1.1; have G2_1 := A2_1.2
  have F3_0 := A3_0.1; have G3_0 := A3_0.2
  have F3_1 := A3_1.1; have G3_1 := A3_1.2
  have Z0 := A0_0.lt
  have Z1 := A1_0.lt
  have Z2 := A2_0.lt
  have Z3 := A3_0.lt
  refine (EH.out _).mono ?_
  rintro e w7 ⟨rfl, hbw7⟩
  clear F0_0 G0_0 F0_1 G0_1 F1_0 G1_0 F1_1 G1_1 F2_0 G2_0 F2_1 G2_1 F3_0 G3_0 F3_1 G3_1 Z0 Z1 Z2 Z3
  replace A0_0 := At.below (A0_0) hbw7
  replace A0_1 := At.below (A0_1) hbw7
  replace A1_0 := At.below (A1_0) hbw7
  replace A1_1 := At.below (A1_1) hbw7
  replace A2_0 := At.below (A2_0) hbw7
  replace A2_1 := At.below (A2_1) hbw7
  replace A3_0 := At.below (A3_0) hbw7
  replace A3_1 := At.below (A3_1) hbw7
  replace B := below_step B B.size (hbw7)
  clear hbw7
  have F0_0 := A0_0.1; have G0_0 := A0_0.2
  have F0_1 := A0_1.1; have G0_1 := A0_1.2
  have F1_0 := A1_0.1; have G1_0 := A1_0.2
  have F1_1 := A1_1.1; have G1_1 := A1_1.2
  have F2_0 := A2_0.1; have G2_0 := A2_0.2
  have F2_1 := A2_1.1; have G2_1 := A2_1.2
  have F3_0 := A3_0.1; have G3_0 := A3_0.2
  have F3_1 := A3_1.1; have G3_1 := A3_1.2
  have Z0 := A0_0.lt
  have Z1 := A1_0.lt
  have Z2 := A2_0.lt
  have Z3 := A3_0.lt
  go_wp2_with fail
  clear F0_0 G0_0 F0_1 G0_1 F1_0 G1_0 F1_1 G1_1 F2_0 G2_0 F2_1 G2_1 F3_0 G3_0 F3_1 G3_1 Z0 Z1 Z2 Z3
  replace A0_0 := At.set_blk (b' := w3.heap.size) (f' := 1) A0_0 (by first | omega | (have := B.size; omega)) (.float .f64 (ofKey (y)))
  replace A0_1 := At.set_blk (b' := w3.heap.size) (f' := 1) A0_1 (by first | omega | (have := B.size; omega)) (.float .f64 (ofKey (y)))
  replace A1_0 := At.set_blk (b' := w3.heap.size) (f' := 1) A1_0 (by first | omega | (have := B.size; omega)) (.float .f64 (ofKey (y)))
  replace A1_1 := At.set_blk (b' := w3.heap.size) (f' := 1) A1_1 (by first | omega | (have := B.size; omega)) (.float .f64 (ofKey (y)))
  replace A2_0 := At.set_blk (b' := w3.heap.size) (f' := 1) A2_0 (by first | omega | (have := B.size; omega)) (.float .f64 (ofKey (y)))
  replace A2_1 := At.set_blk (b' := w3.heap.size) (f' := 1) A2_1 (by first | omega | (have := B.size; omega)) (.float .f64 (ofKey (y)))
  replace A3_0 := At.set_off (f' := 1) A3_0 (by decide) (.float .f64 (ofKey (y)))
  replace A3_1 := At.set_same A3_1 (.float .f64 (ofKey (y)))
  replace A0_0 := At.set_blk (b' := w.heap.size + 1 + 1) (f' := 0) A0_0 (by first | omega | (have := B.size; omega)) (.float .f64 (ofKey (x)))
  replace A0_1 := At.set_blk (b' := w.heap.size + 1 + 1) (f' := 0) A0_1 (by first | omega | (have := B.size; omega)) (.float .f64 (ofKey (x)))
  replace A1_0 := At.set_blk (b' := w.heap.size + 1 + 1) (f' := 0) A1_0 (by first | omega | (have := B.size; omega)) (.float .f64 (ofKey (x)))
  replace A1_1 := At.set_blk (b' := w.heap.size + 1 + 1) (f' := 0) A1_1 (by first | omega | (have := B.size; omega)) (.float .f64 (ofKey (x)))
  replace A2_0 := At.set_same A2_0 (.float .f64 (ofKey (x)))
  replace A2_1 := At.set_off (f' := 0) A2_1 (by decide) (.float .f64 (ofKey (x)))
  replace A3_0 := At.set_blk (b' := w.heap.size + 1 + 1) (f' := 0) A3_0 (by first | omega | (have := B.size; omega)) (.float .f64 (ofKey (x)))
  replace A3_1 := At.set_blk (b' := w.heap.size + 1 + 1) (f' := 0) A3_1 (by first | omega | (have := B.size; omega)) (.float .f64 (ofKey (x)))
  replace A0_0 := At.set_blk (b' := w.heap.size + 1 + 1) (f' := 1) A0_0 (by first | omega | (have := B.size; omega)) (.float .f64 (ofKey (y)))
  replace A0_1 := At.set_blk (b' := w.heap.size + 1 + 1) (f' := 1) A0_1 (by first | omega | (have := B.size; omega)) (.float .f64 (ofKey (y)))
  replace A1_0 := At.set_blk (b' := w.heap.size + 1 + 1) (f' := 1) A1_0 (by first | omega | (have := B.size; omega)) (.float .f64 (ofKey (y)))
  replace A1_1 := At.set_blk (b' := w.heap.size + 1 + 1) (f' := 1) A1_1 (by first | omega | (have := B.size; omega)) (.float .f64 (ofKey (y)))
  replace A2_0 := At.set_off (f' := 1) A2_0 (by decide) (.float .f64 (ofKey (y)))
  replace A2_1 := At.set_same A2_1 (.float .f64 (ofKey (y)))
  replace A3_0 := At.set_blk (b' := w.heap.size + 1 + 1) (f' := 1) A3_0 (by first | omega | (have := B.size; omega)) (.float .f64 (ofKey (y)))
  replace A3_1 := At.set_blk (b' := w.heap.size + 1 + 1) (f' := 1) A3_1 (by first | omega | (have := B.size; omega)) (.float .f64 (ofKey (y)))
  have B' : Below w.heap.size w (World.setCell (World.setCell (World.setCell w7 ⟨w3.heap.size, 1, none⟩ (.float .f64 (ofKey (y)))) ⟨w.heap.size + 1 + 1, 0, none⟩ (.float .f64 (ofKey (x)))) ⟨w.heap.size + 1 + 1, 1, none⟩ (.float .f64 (ofKey (y)))) := (Below.setCell (Below.setCell (Below.setCell B (p := ⟨w3.heap.size, 1, none⟩) (by first | (show w.heap.size ≤ w3.heap.size; omega) | (have := B.size; show w.heap.size ≤ w3.heap.size; omega)) (.float .f64 (ofKey (y)))) (p := ⟨w.heap.size + 1 + 1, 0, none⟩) (by first | (show w.heap.size ≤ w.heap.size + 1 + 1; omega) | (have := B.size; show w.heap.size ≤ w.heap.size + 1 + 1; omega)) (.float .f64 (ofKey (x)))) (p := ⟨w.heap.size + 1 + 1, 1, none⟩) (by first | (show w.heap.size ≤ w.heap.size + 1 + 1; omega) | (have := B.size; show w.heap.size ≤ w.heap.size + 1 + 1; omega)) (.float .f64 (ofKey (y))))
  clear B
  obtain ⟨wz, hwz⟩ : ∃ wz, wz = (World.setCell (World.setCell (World.setCell w7 ⟨w3.heap.size, 1, none⟩ (.float .f64 (ofKey (y)))) ⟨w.heap.size + 1 + 1, 0, none⟩ (.float .f64 (ofKey (x)))) ⟨w.heap.size + 1 + 1, 1, none⟩ (.float .f64 (ofKey (y)))) := ⟨_, rfl⟩
  rw [← hwz]
  replace A0_0 := At.of A0_0 hwz
  replace A0_1 := At.of A0_1 hwz
  replace A1_0 := At.of A1_0 hwz
  replace A1_1 := At.of A1_1 hwz
  replace A2_0 := At.of A2_0 hwz
  replace A2_1 := At.of A2_1 hwz
  replace A3_0 := At.of A3_0 hwz
  replace A3_1 := At.of A3_1 hwz
  have B := below_of B' hwz
  clear B' hwz
  have F0_0 := A0_0.1; have G0_0 := A0_0.2
  have F0_1 := A0_1.1; have G0_1 := A0_1.2
  have F1_0 := A1_0.1; have G1_0 := A1_0.2
  have F1_1 := A1_1.1; have G1_1 := A1_1.2
  have F2_0 := A2_0.1; have G2_0 := A2_0.2
  have F2_1 := A2_1.1; have G2_1 := A2_1.2
  have F3_0 := A3_0.1; have G3_0 := A3_0.2
  have F3_1 := A3_1.1; have G3_1 := A3_1.2
  have Z0 := A0_0.lt
  have Z1 := A1_0.lt
  have Z2 := A2_0.lt
  have Z3 := A3_0.lt
  refine bodyPost_ret (v := .agg #[.float .f64 (ofKey (x)), .float .f64 (ofKey (y))]) (by simp [results, Try.results34, go_sem, F2_0, F2_1]) rfl ⟨rfl, ?_⟩
  exact B

set_option maxHeartbeats 1000000 in
theorem div_p3iPP (a b c d : Int) (ha : Rg a) (hb : Rg b) (hc : Rg c) (hd : Rg d) (h0 : 0 ≤ c) (h1 : 0 < d) (hAB : (decide (a = 0) && decide (b = 0)) = false) (h2 : 0 < c) (h3 : d = PI) (h4 : 0 ≤ a) (h5 : 0 < b) (w : World) :
    Calls Try.prog 34 #[.agg #[.float .f64 (ofKey (a)), .float .f64 (ofKey (b))], .agg #[.float .f64 (ofKey (c)), .float .f64 (ofKey (d))]] w fun e w' => e = .returned (.agg #[.float .f64 (ofKey (endK 9 a d false)), .float .f64 (ofKey (endK 9 b c true))]) ∧ Below w.heap.size w w' := by
  have he := eqiv
  have hP := PI_pos
  have q1 := ha.1; have q2 := ha.2; have q3 := hb.1; have q4 := hb.2; have q5 := hc.1; have q6 := hc.2; have q7 := hd.1; have q8 := hd.2
  have dD : decide (d = 0) = false := decide_eq_false (by omega)
  have dI : decide (d < PI) = false := decide_eq_false (by omega)
  have dp : decide (0 < c) = true := decide_eq_true (by omega)
  have EL := Lib.hid (fun w => ivlend_any 9 a d false ha hd (.inr (.inr ⟨rfl, by omega⟩)) w)
  generalize endK 9 a d false = x at *
  have EH := Lib.hid (fun w => ivlend_any 9 b c true hb hc (.inr (.inr ⟨rfl, by omega⟩)) w)
  generalize endK 9 b c true = y at *
  clear h3
  go_enter Try.func34, Try.ntmps34
  go_wp2_with fail
  have A0_0 : At (World.alloc (World.alloc (World.alloc w (.cells #[.float .f64 (ofKey (a)), .float .f64 (ofKey (b))] 27)) (.cells #[.float .f64 (ofKey (c)), .float .f64 (ofKey (d))] 27)) (.cells #[.float .f64 (0), .float .f64 (0)] 27)) (w.heap.size) 0 (.float .f64 (ofKey (a))) := ⟨by simp [go_sem], by simp [go_sem]⟩
  have A0_1 : At (World.alloc (World.alloc (World.alloc w (.cells #[.float .f64 (ofKey (a)), .float .f64 (ofKey (b))] 27)) (.cells #[.float .f64 (ofKey (c)), .float .f64 (ofKey (d))] 27)) (.cells #[.float .f64 (0), .float .f64 (0)] 27)) (w.heap.size) 1 (.float .f64 (ofKey (b))) := ⟨by simp [go_sem], by simp [go_sem]⟩
  have A1_0 : At (World.alloc (World.alloc (World.alloc w (.cells #[.float .f64 (ofKey (a)), .float .f64 (ofKey (b))] 27)) (.cells #[.float .f64 (ofKey (c)), .float .f64 (ofKey (d))] 27)) (.cells #[.float .f64 (0), .float .f64 (0)] 27)) (w.heap.size + 1) 0 (.float .f64 (ofKey (c))) := ⟨by simp [go_sem], by simp [go_sem]⟩
  have A1_1 : At (World.alloc (World.alloc (World.alloc w (.cells #[.float .f64 (ofKey (a)), .float .f64 (ofKey (b))] 27)) (.cells #[.float .f64 (ofKey (c)), .float .f64 (ofKey (d))] 27)) (.cells #[.float .f64 (0), .float .f64 (0)] 27)) (w.heap.size + 1) 1 (.float .f64 (ofKey (d))) := ⟨by simp [go_sem], by simp [go_sem]⟩
  have A2_0 : At (World.alloc (World.alloc (World.alloc w (.cells #[.float .f64 (ofKey (a)), .float .f64 (ofKey (b))] 27)) (.cells #[.float .f64 (ofKey (c)), .float .f64 (ofKey (d))] 27)) (.cells #[.float .f64 (0), .float .f64 (0)] 27)) (w.heap.size + 1 + 1) 0 (.float .f64 (0)) := ⟨by simp [go_sem], by simp [go_sem]⟩
  have A2_1 : At (World.alloc (World.alloc (World.alloc w (.cells #[.float .f64 (ofKey (a)), .float .f64 (ofKey (b))] 27)) (.cells #[.float .f64 (ofKey (c)), .float .f64 (ofKey (d))] 27)) (.cells #[.float .f64 (0), .float .f64 (0)] 27)) (w.heap.size + 1 + 1) 1 (.float .f64 (0)) := ⟨by simp [go_sem], by simp [go_sem]⟩
  have k0_0 := cell_regrown A0_0.1
  have k0_1 := cell_regrown A0_1.1
  have k1_0 := cell_regrown A1_0.1
  have k1_1 := cell_regrown A1_1.1
  have k2_0 := cell_regrown A2_0.1
  have k2_1 := cell_regrown A2_1.1
  refine wp_region_below (by kernel_rfl) (by kernel_rfl) ?_
  repeat (go_big_quiet_step ((go_at_call 48; exact Calls.regrown_of (ivlzero_any _))))
  refine wpQuiet_nil (fun w1 hbw1 => ?_)
  clear k0_0 k0_1 k1_0 k1_1 k2_0 k2_1
  replace A0_0 := At.below A0_0 hbw1
  replace A0_1 := At.below A0_1 hbw1
  replace A1_0 := At.below A1_0 hbw1
  replace A1_1 := At.below A1_1 hbw1
  replace A2_0 := At.below A2_0 hbw1
  replace A2_1 := At.below A2_1 hbw1
  have B := below_alloc (below_alloc (below_alloc (hbw1)))
  clear hbw1
  have F0_0 := A0_0.1; have G0_0 := A0_0.2
  have F0_1 := A0_1.1; have G0_1 := A0_1.2
  have F1_0 := A1_0.1; have G1_0 := A1_0.2
  have F1_1 := A1_1.1; have G1_1 := A1_1.2
  have F2_0 := A2_0.1; have G2_0 := A2_0.2
  have F2_1 := A2_1.1; have G2_1 := A2_1.2
  have Z0 := A0_0.lt
  have Z1 := A1_0.lt
  have Z2 := A2_0.lt
  go_wp2_with fail
  have k0_0 := cell_regrown A0_0.1
  have k0_1 := cell_regrown A0_1.1
  have k1_0 := cell_regrown A1_0.1
  have k1_1 := cell_regrown A1_1.1
  have k2_0 := cell_regrown A2_0.1
  have k2_1 := cell_regrown A2_1.1
  refine wp_region_below (by kernel_rfl) (by kernel_rfl) ?_
  repeat (go_big_quiet_step ((go_at_call 48; exact Calls.regrown_of (ivlzero_any _))))
  refine wpQuiet_nil (fun w2 hbw2 => ?_)
  clear k0_0 k0_1 k1_0 k1_1 k2_0 k2_1
  clear F0_0 G0_0 F0_1 G0_1 F1_0 G1_0 F1_1 G1_1 F2_0 G2_0 F2_1 G2_1 Z0 Z1 Z2
  replace A0_0 := At.below (A0_0) hbw2
  replace A0_1 := At.below (A0_1) hbw2
  replace A1_0 := At.below (A1_0) hbw2
  replace A1_1 := At.below (A1_1) hbw2
  replace A2_0 := At.below (A2_0) hbw2
  replace A2_1 := At.below (A2_1) hbw2
  replace B := below_step B B.size (hbw2)
  clear hbw2
  have F0_0 := A0_0.1; have G0_0 := A0_0.2
  have F0_1 := A0_1.1; have G0_1 := A0_1.2
  have F1_0 := A1_0.1; have G1_0 := A1_0.2
  have F1_1 := A1_1.1; have G1_1 := A1_1.2
  have F2_0 := A2_0.1; have G2_0 := A2_0.2
  have F2_1 := A2_1.1; have G2_1 := A2_1.2
  have Z0 := A0_0.lt
  have Z1 := A1_0.lt
  have Z2 := A2_0.lt
  go_wp2_with fail
  have k0_0 := cell_regrown A0_0.1
  have k0_1 := cell_regrown A0_1.1
  have k1_0 := cell_regrown A1_0.1
  have k1_1 := cell_regrown A1_1.1
  have k2_0 := cell_regrown A2_0.1
  have k2_1 := cell_regrown A2_1.1
  refine wp_region_below (by kernel_rfl) (by kernel_rfl) ?_
  repeat (go_big_quiet_step ((go_at_call 24; exact quiet_same (ivlinf_any _))))
  refine wpQuiet_nil (fun w3 hbw3 => ?_)
  clear k0_0 k0_1 k1_0 k1_1 k2_0 k2_1
  clear F0_0 G0_0 F0_1 G0_1 F1_0 G1_0 F1_1 G1_1 F2_0 G2_0 F2_1 G2_1 Z0 Z1 Z2
  replace A0_0 := At.below (A0_0) hbw3
  replace A0_1 := At.below (A0_1) hbw3
  replace A1_0 := At.below (A1_0) hbw3
  replace A1_1 := At.below (A1_1) hbw3
  replace A2_0 := At.below (A2_0) hbw3
  replace A2_1 := At.below (A2_1) hbw3
  replace B := below_step B B.size (hbw3)
  clear hbw3
  have F0_0 := A0_0.1; have G0_0 := A0_0.2
  have F0_1 := A0_1.1; have G0_1 := A0_1.2
  have F1_0 := A1_0.1; have G1_0 := A1_0.2
  have F1_1 := A1_1.1; have G1_1 := A1_1.2
  have F2_0 := A2_0.1; have G2_0 := A2_0.2
  have F2_1 := A2_1.1; have G2_1 := A2_1.2
  have Z0 := A0_0.lt
  have Z1 := A1_0.lt
  have Z2 := A2_0.lt
  go_wp2_with (go_at_call 24; refine (ivlinf_any _).mono ?_; rintro e w' ⟨rfl, rfl⟩)
  clear F0_0 G0_0 F0_1 G0_1 F1_0 G1_0 F1_1 G1_1 F2_0 G2_0 F2_1 G2_1 Z0 Z1 Z2
  have n1 : w.heap.size < w3.heap.size := by simpa only [World.size_setCell] using At.lt A0_0
  have n2 : w.heap.size + 1 < w3.heap.size := by simpa only [World.size_setCell] using At.lt A1_0
  have n3 : w.heap.size + 1 + 1 < w3.heap.size := by simpa only [World.size_setCell] using At.lt A2_0
  replace A0_0 : At (World.alloc w3 (.cells #[.float .f64 (ofKey (-PI)), .float .f64 (ofKey (PI))] 27)) _ _ _ := At.alloc (A0_0)
  replace A0_1 : At (World.alloc w3 (.cells #[.float .f64 (ofKey (-PI)), .float .f64 (ofKey (PI))] 27)) _ _ _ := At.alloc (A0_1)
  replace A1_0 : At (World.alloc w3 (.cells #[.float .f64 (ofKey (-PI)), .float .f64 (ofKey (PI))] 27)) _ _ _ := At.alloc (A1_0)
  replace A1_1 : At (World.alloc w3 (.cells #[.float .f64 (ofKey (-PI)), .float .f64 (ofKey (PI))] 27)) _ _ _ := At.alloc (A1_1)
  replace A2_0 : At (World.alloc w3 (.cells #[.float .f64 (ofKey (-PI)), .float .f64 (ofKey (PI))] 27)) _ _ _ := At.alloc (A2_0)
  replace A2_1 : At (World.alloc w3 (.cells #[.float .f64 (ofKey (-PI)), .float .f64 (ofKey (PI))] 27)) _ _ _ := At.alloc (A2_1)
  have A3_0 : At (World.alloc w3 (.cells #[.float .f64 (ofKey (-PI)), .float .f64 (ofKey (PI))] 27)) (w3.heap.size) 0 (.float .f64 (ofKey (-PI))) := ⟨by simp [go_sem], by simp [go_sem]⟩
  have A3_1 : At (World.alloc w3 (.cells #[.float .f64 (ofKey (-PI)), .float .f64 (ofKey (PI))] 27)) (w3.heap.size) 1 (.float .f64 (ofKey (PI))) := ⟨by simp [go_sem], by simp [go_sem]⟩
  have B' : Below w.heap.size w (World.alloc w3 (.cells #[.float .f64 (ofKey (-PI)), .float .f64 (ofKey (PI))] 27)) := (Below.alloc B (by first | exact B.size | (simp only [World.size_setCell, World.size_alloc]; have := B.size; omega)) _)
  clear B
  obtain ⟨w4, hw4⟩ : ∃ w4, w4 = (World.alloc w3 (.cells #[.float .f64 (ofKey (-PI)), .float .f64 (ofKey (PI))] 27)) := ⟨_, rfl⟩
  rw [← hw4]
  replace A0_0 := At.of A0_0 hw4
  replace A0_1 := At.of A0_1 hw4
  replace A1_0 := At.of A1_0 hw4
  replace A1_1 := At.of A1_1 hw4
  replace A2_0 := At.of A2_0 hw4
  replace A2_1 := At.of A2_1 hw4
  replace A3_0 := At.of A3_0 hw4
  replace A3_1 := At.of A3_1 hw4
  have B := below_of B' hw4
  clear B' hw4
  have F0_0 := A0_0.1; have G0_0 := A0_0.2
  have F0_1 := A0_1.1; have G0_1 := A0_1.2
  have F1_0 := A1_0.1; have G1_0 := A1_0.2
  have F1_1 := A1_1.1; have G1_1 := A1_1.2
  have F2_0 := A2_0.1; have G2_0 := A2_0.2
  have F2_1 := A2_1.1; have G2_1 := A2_1.2
  have F3_0 := A3_0.1; have G3_0 := A3_0.2
  have F3_1 := A3_1.1; have G3_1 := A3_1.2
  have Z0 := A0_0.lt
  have Z1 := A1_0.lt
  have Z2 := A2_0.lt
  have Z3 := A3_0.lt
  refine (EL.out _).mono ?_
  rintro e w5 ⟨rfl, hbw5⟩
  clear F0_0 G0_0 F0_1 G0_1 F1_0 G1_0 F1_1 G1_1 F2_0 G2_0 F2_1 G2_1 F3_0 G3_0 F3_1 G3_1 Z0 Z1 Z2 Z3
  replace A0_0 := At.below (A0_0) hbw5
  replace A0_1 := At.below (A0_1) hbw5
  replace A1_0 := At.below (A1_0) hbw5
  replace A1_1 := At.below (A1_1) hbw5
  replace A2_0 := At.below (A2_0) hbw5
  replace A2_1 := At.below (A2_1) hbw5
  replace A3_0 := At.below (A3_0) hbw5
  replace A3_1 := At.below (A3_1) hbw5
  replace B := below_step B B.size (hbw5)
  clear hbw5
  have F0_0 := A0_0.1; have G0_0 := A0_0.2
  have F0_1 := A0_1.1; have G0_1 := A0_1.2
  have F1_0 := A1_0.1; have G1_0 := A1_0.2
  have F1_1 := A1_1.1; have G1_1 := A1_1.2
  have F2_0 := A2_0.1; have G2_0 := A2_0.2
  have F2_1 := A2_1.1; have G2_1 := A2_1.2
  have F3_0 := A3_0.1; have G3_0 := A3_0.2
  have F3_1 := A3_1.1; have G3_1 := A3_1.2
  have Z0 := A0_0.lt
  have Z1 := A1_0.lt
  have Z2 := A2_0.lt
  have Z3 := A3_0.lt
  go_wp2_with fail
  clear F0_0 G0_0 F0_1 G0_1 F1_0 G1_0 F1_1 G1_1 F2_0 G2_0 F2_1 G2_1 F3_0 G3_0 F3_1 G3_1 Z0 Z1 Z2 Z3
  replace A0_0 := At.set_blk (b' := w3.heap.size) (f' := 0) A0_0 (by first | omega | (have := B.size; omega)) (.float .f64 (ofKey (x)))
  replace A0_1 := At.set_blk (b' := w3.heap.size) (f' := 0) A0_1 (by first | omega | (have := B.size; omega)) (.float .f64 (ofKey (x)))
  replace A1_0 := At.set_blk (b' := w3.heap.size) (f' := 0) A1_0 (by first | omega | (have := B.size; omega)) (.float .f64 (ofKey (x)))
  replace A1_1 := At.set_blk (b' := w3.heap.size) (f' := 0) A1_1 (by first | omega | (have := B.size; omega)) (.float .f64 (ofKey (x)))
  replace A2_0 := At.set_blk (b' := w3.heap.size) (f' := 0) A2_0 (by first | omega | (have := B.size; omega)) (.float .f64 (ofKey (x)))
  replace A2_1 := At.set_blk (b' := w3.heap.size) (f' := 0) A2_1 (by first | omega | (have := B.size; omega)) (.float .f64 (ofKey (x)))
  replace A3_0 := At.set_same A3_0 (.float .f64 (ofKey (x)))
  replace A3_1 := At.set_off (f' := 0) A3_1 (by decide) (.float .f64 (ofKey (x)))
  have B' : Below w.heap.size w (World.setCell w5 ⟨w3.heap.size, 0, none⟩ (.float .f64 (ofKey (x)))) := (Below.setCell B (p := ⟨w3.heap.size, 0, none⟩) (by first | (show w.heap.size ≤ w3.heap.size; omega) | (have := B.size; show w.heap.size ≤ w3.heap.size; omega)) (.float .f64 (ofKey (x))))
  clear B
  obtain ⟨w6, hw6⟩ : ∃ w6, w6 = (World.setCell w5 ⟨w3.heap.size, 0, none⟩ (.float .f64 (ofKey (x)))) := ⟨_, rfl⟩
  rw [← hw6]
  replace A0_0 := At.of A0_0 hw6
  replace A0_1 := At.of A0_1 hw6
  replace A1_0 := At.of A1_0 hw6
  replace A1_1 := At.of A1_1 hw6
  replace A2_0 := At.of A2_0 hw6
  replace A2_1 := At.of A2_1 hw6
  replace A3_0 := At.of A3_0 hw6
  replace A3_1 := At.of A3_1 hw6
  have B := below_of B' hw6
  clear B' hw6
  have F0_0 := A0_0.1; have G0_0 := A0_0.2
  have F0_1 := A0_1.1; have G0_1 := A0_1.2
  have F1_0 := A1_0.1; have G1_0 := A1_0.2
  have F1_1 := A1_1.1; have G1_1 := A1_1.2
  have F2_0 := A2_0.1; have G2_0 := A2_0.2
  have F2_1 := A2_1.1; have G2_1 := A2_1.2
  have F3_0 := A3_0.1; have G3_0 := A3_0.2
  have F3_1 := A3_1.1; have G3_1 := A3_1.2
  have Z0 := A0_0.lt
  have Z1 := A1_0.lt
  have Z2 := A2_0.lt
  have Z3 := A3_0.lt
  refine (EH.out _).mono ?_
  rintro e w7 ⟨rfl, hbw7⟩
  clear F0_0 G0_0 F0_1 G0_1 F1_0 G1_0 F1_1 G1_1 F2_0 G2_0 F2_1 G2_1 F3_0 G3_0 F3_1 G3_1 Z0 Z1 Z2 Z3
  replace A0_0 := At.below (A0_0) hbw7
  replace A0_1 := At.below (A0_1) hbw7
  replace A1_0 := At.below (A1_0) hbw7
  replace A1_1 := At.below (A1_1) hbw7
  replace A2_0 := At.below (A2_0) hbw7
  replace A2_1 := At.below (A2_1) hbw7
  replace A3_0 := At.below (A3_0) hbw7
  replace A3_1 := At.below (A3_1) hbw7
  replace B := below_step B B.size (hbw7)
  clear hbw7
  have F0_0 := A0_0.1; have G0_0 := A0_0.2
  have F0_1 := A0_1.1; have G0_1 := A0_1.2
  have F1_0 := A1_0.1; have G1_0 := A1_0.2
  have F1_1 := A1_1.1; have G1_1 := A1_1.2
  have F2_0 := A2_0.1; have G2_0 := A2_0.2
  have F2_1 := A2_1.1; have G2_1 := A2_1.2
  have F3_0 := A3_0.1; have G3_0 := A3_0.2
  have F3_1 := A3_1.1; have G3_1 := A3_1.2
  have Z0 := A0_0.lt
  have Z1 := A1_0.lt
  have Z2 := A2_0.lt
  have Z3 := A3_0.lt
  go_wp2_with fail
  clear F0_0 G0_0 F0_1 G0_1 F1_0 G1_0 F1_1 G1_1 F2_0 G2_0 F2_1 G2_1 F3_0 G3_0 F3_1 G3_1 Z0 Z1 Z2 Z3
  replace A0_0 := At.set_blk (b' := w3.heap.size) (f' := 1) A0_0 (by first | omega | (have := B.size; omega)) (.float .f64 (ofKey (y)))
  replace A0_1 := At.set_blk (b' := w3.heap.size) (f' := 1) A0_1 (by first | omega | (have := B.size; omega)) (.float .f64 (ofKey (y)))
  replace A1_0 := At.set_blk (b' := w3.heap.size) (f' := 1) A1_0 (by first | omega | (have := B.size; omega)) (.float .f64 (ofKey (y)))
  replace A1_1 := At.set_blk (b' := w3.heap.size) (f' := 1) A1_1 (by first | omega | (have := B.size; omega)) (.float .f64 (ofKey (y)))
  replace A2_0 := At.set_blk (b' := w3.heap.size) (f' := 1) A2_0 (by first | omega | (have := B.size; omega)) (.float .f64 (ofKey (y)))
  replace A2_1 := At.set_blk (b' := w3.heap.size) (f' := 1) A2_1 (by first | omega | (have := B.size; omega)) (.float .f64 (ofKey (y)))
  replace A3_0 := At.set_off (f' := 1) A3_0 (by decide) (.float .f64 (ofKey (y)))
  replace A3_1 := At.set_same A3_1 (.float .f64 (ofKey (y)))
  replace A0_0 := At.set_blk (b' := w.heap.size + 1 + 1) (f' := 0) A0_0 (by first | omega | (have := B.size; omega)) (.float .f64 (ofKey (x)))
  replace A0_1 := At.set_blk (b' := w.heap.size + 1 + 1) (f' := 0) A0_1 (by first | omega | (have := B.size; omega)) (.float .f64 (ofKey (x)))
  replace A1_0 := At.set_blk (b' := w.heap.size + 1 + 1) (f' := 0) A1_0 (by first | omega | (have := B.size; omega)) (.float .f64 (ofKey (x)))
  replace A1_1 := At.set_blk (b' := w.heap.size + 1 + 1) (f' := 0) A1_1 (by first | omega | (have := B.size; omega)) (.float .f64 (ofKey (x)))
  replace A2_0 := At.set_same A2_0 (.float .f64 (ofKey (x)))
  replace A2_1 := At.set_off (f' := 0) A2_1 (by decide) (.float .f64 (ofKey (x)))
  replace A3_0 := At.set_blk (b' := w.heap.size + 1 + 1) (f' := 0) A3_0 (by first | omega | (have := B.size; omega)) (.float .f64 (ofKey (x)))
  replace A3_1 := At.set_blk (b' := w.heap.size + 1 + 1) (f' := 0) A3_1 (by first | omega | (have := B.size; omega)) (.float .f64 (ofKey (x)))
  replace A0_0 := At.set_blk (b' := w.heap.size + 1 + 1) (f' := 1) A0_0 (by first | omega | (have := B.size; omega)) (.float .f64 (ofKey (y)))
  replace A0_1 := At.set_blk (b' := w.heap.size + 1 + 1) (f' := 1) A0_1 (by first | omega | (have := B.size; omega)) (.float .f64 (ofKey (y)))
  replace A1_0 := At.set_blk (b' := w.heap.size + 1 + 1) (f' := 1) A1_0 (by first | omega | (have := B.size; omega)) (.float .f64 (ofKey (y)))
  replace A1_1 := At.set_blk (b' := w.heap.size + 1 + 1) (f' := 1) A1_1 (by first | omega | (have := B.size; omega)) (.float .f64 (ofKey (y)))
  replace A2_0 := At.set_off (f' := 1) A2_0 (by decide) (.float .f64 (ofKey (y)))
  replace A2_1 := At.set_same A2_1 (.float .f64 (ofKey (y)))
  replace A3_0 := At.set_blk (b' := w.heap.size + 1 + 1) (f' := 1) A3_0 (by first | omega | (have := B.size; omega)) (.float .f64 (ofKey (y)))
  replace A3_1 := At.set_blk (b' := w.heap.size + 1 + 1) (f' := 1) A3_1 (by first | omega | (have := B.size; omega)) (.float .f64 (ofKey (y)))
  have B' : Below w.heap.size w (World.setCell (World.setCell (World.setCell w7 ⟨w3.heap.size, 1, none⟩ (.float .f64 (ofKey (y)))) ⟨w.heap.size + 1 + 1, 0, none⟩ (.float .f64 (ofKey (x)))) ⟨w.heap.size + 1 + 1, 1, none⟩ (.float .f64 (ofKey (y)))) := (Below.setCell (Below.setCell (Below.setCell B (p := ⟨w3.heap.size, 1, none⟩) (by first | (show w.heap.size ≤ w3.heap.size; omega) | (have := B.size; show w.heap.size ≤ w3.heap.size; omega)) (.float .f64 (ofKey (y)))) (p := ⟨w.heap.size + 1 + 1, 0, none⟩) (by first | (show w.heap.size ≤ w.heap.size + 1 + 1; omega) | (have := B.size; show w.heap.size ≤ w.heap.size + 1 + 1; omega)) (.float .f64 (ofKey (x)))) (p := ⟨w.heap.size + 1 + 1, 1, none⟩) (by first | (show w.heap.size ≤ w.heap.size + 1 + 1; omega) | (have := B.size; show w.heap.size ≤ w.heap.size + 1 + 1; omega)) (.float .f64 (ofKey (y))))
  clear B
  obtain ⟨wz, hwz⟩ : ∃ wz, wz = (World.setCell (World.setCell (World.setCell w7 ⟨w3.heap.size, 1, none⟩ (.float .f64 (ofKey (y)))) ⟨w.heap.size + 1 + 1, 0, none⟩ (.float .f64 (ofKey (x)))) ⟨w.heap.size + 1 + 1, 1, none⟩ (.float .f64 (ofKey (y)))) := ⟨_, rfl⟩
  rw [← hwz]
  replace A0_0 := At.of A0_0 hwz
  replace A0_1 := At.of A0_1 hwz
  replace A1_0 := At.of A1_0 hwz
  replace A1_1 := At.of A1_1 hwz
  replace A2_0 := At.of A2_0 hwz
  replace A2_1 := At.of A2_1 hwz
  replace A3_0 := At.of A3_0 hwz
  replace A3_1 := At.of A3_1 hwz
  have B := below_of B' hwz
  clear B' hwz
  have F0_0 := A0_0.1; have G0_0 := A0_0.2
  have F0_1 := A0_1.1; have G0_1 := A0_1.2
  have F1_0 := A1_0.1; have G1_0 := A1_0.2
  have F1_1 := A1_1.1; have G1_1 := A1_1.2
  have F2_0 := A2_0.1; have G2_0 := A2_0.2
  have F2_1 := A2_1.1; have G2_1 := A2_1.2
  have F3_0 := A3_0.1; have G3_0 := A3_0.2
  have F3_1 := A3_1.1; have G3_1 := A3_1.2
  have Z0 := A0_0.lt
  have Z1 := A1_0.lt
  have Z2 := A2_0.lt
  have Z3 := A3_0.lt
  refine bodyPost_ret (v := .agg #[.float .f64 (ofKey (x)), .float .f64 (ofKey (y))]) (by simp [results, Try.results34, go_sem, F2_0, F2_1]) rfl ⟨rfl, ?_⟩
  exact B

set_option maxHeartbeats 1000000 in
theorem div_p3iNN (a b c d : Int) (ha : Rg a) (hb : Rg b) (hc : Rg c) (hd : Rg d) (h0 : 0 ≤ c) (h1 : 0 < d) (hAB : (decide (a = 0) && decide (b = 0)) = false) (h2 : 0 < c) (h3 : d = PI) (h4 : a < 0) (h5 : b ≤ 0) (w : World) :
    Calls Try.prog 34 #[.agg #[.float .f64 (ofKey (a)), .float .f64 (ofKey (b))], .agg #[.float .f64 (ofKey (c)), .float .f64 (ofKey (d))]] w fun e w' => e = .returned (.agg #[.float .f64 (ofKey (endK 9 a c false)), .float .f64 (ofKey (endK 9 b d true))]) ∧ Below w.heap.size w w' := by
  have he := eqiv
  have hP := PI_pos
  have q1 := ha.1; have q2 := ha.2; have q3 := hb.1; have q4 := hb.2; have q5 := hc.1; have q6 := hc.2; have q7 := hd.1; have q8 := hd.2
  have dD : decide (d = 0) = false := decide_eq_false (by omega)
  have dI : decide (d < PI) = false := decide_eq_false (by omega)
  have dp : decide (0 < c) = true := decide_eq_true (by omega)
  have EL := Lib.hid (fun w => ivlend_any 9 a c false ha hc (.inr (.inr ⟨rfl, by omega⟩)) w)
  generalize endK 9 a c false = x at *
  have EH := Lib.hid (fun w => ivlend_any 9 b d true hb hd (.inr (.inr ⟨rfl, by omega⟩)) w)
  generalize endK 9 b d true = y at *
  clear h3
  go_enter Try.func34, Try.ntmps34
  go_wp2_with fail
  have A0_0 : At (World.alloc (World.alloc (World.alloc w (.cells #[.float .f64 (ofKey (a)), .float .f64 (ofKey (b))] 27)) (.cells #[.float .f64 (ofKey (c)), .float .f64 (ofKey (d))] 27)) (.cells #[.float .f64 (0), .float .f64 (0)] 27)) (w.heap.size) 0 (.float .f64 (ofKey (a))) := ⟨by simp [go_sem], by simp [go_sem]⟩
  have A0_1 : At (World.alloc (World.alloc (World.alloc w (.cells #[.float .f64 (ofKey (a)), .float .f64 (ofKey (b))] 27)) (.cells #[.float .f64 (ofKey (c)), .float .f64 (ofKey (d))] 27)) (.cells #[.float .f64 (0), .float .f64 (0)] 27)) (w.heap.size) 1 (.float .f64 (ofKey (b))) := ⟨by simp [go_sem], by simp [go_sem]⟩
  have A1_0 : At (World.alloc (World.alloc (World.alloc w (.cells #[.float .f64 (ofKey (a)), .float .f64 (ofKey (b))] 27)) (.cells #[.float .f64 (ofKey (c)), .float .f64 (ofKey (d))] 27)) (.cells #[.float .f64 (0), .float .f64 (0)] 27)) (w.heap.size + 1) 0 (.float .f64 (ofKey (c))) := ⟨by simp [go_sem], by simp [go_sem]⟩
  have A1_1 : At (World.alloc (World.alloc (World.alloc w (.cells #[.float .f64 (ofKey (a)), .float .f64 (ofKey (b))] 27)) (.cells #[.float .f64 (ofKey (c)), .float .f64 (ofKey (d))] 27)) (.cells #[.float .f64 (0), .float .f64 (0)] 27)) (w.heap.size + 1) 1 (.float .f64 (ofKey (d))) := ⟨by simp [go_sem], by simp [go_sem]⟩
  have A2_0 : At (World.alloc (World.alloc (World.alloc w (.cells #[.float .f64 (ofKey (a)), .float .f64 (ofKey (b))] 27)) (.cells #[.float .f64 (ofKey (c)), .float .f64 (ofKey (d))] 27)) (.cells #[.float .f64 (0), .float .f64 (0)] 27)) (w.heap.size + 1 + 1) 0 (.float .f64 (0)) := ⟨by simp [go_sem], by simp [go_sem]⟩
  have A2_1 : At (World.alloc (World.alloc (World.alloc w (.cells #[.float .f64 (ofKey (a)), .float .f64 (ofKey (b))] 27)) (.cells #[.float .f64 (ofKey (c)), .float .f64 (ofKey (d))] 27)) (.cells #[.float .f64 (0), .float .f64 (0)] 27)) (w.heap.size + 1 + 1) 1 (.float .f64 (0)) := ⟨by simp [go_sem], by simp [go_sem]⟩
  have k0_0 := cell_regrown A0_0.1
  have k0_1 := cell_regrown A0_1.1
  have k1_0 := cell_regrown A1_0.1
  have k1_1 := cell_regrown A1_1.1
  have k2_0 := cell_regrown A2_0.1
  have k2_1 := cell_regrown A2_1.1
  refine wp_region_below (by kernel_rfl) (by kernel_rfl) ?_
  repeat (go_big_quiet_step ((go_at_call 48; exact Calls.regrown_of (ivlzero_any _))))
  refine wpQuiet_nil (fun w1 hbw1 => ?_)
  clear k0_0 k0_1 k1_0 k1_1 k2_0 k2_1
  replace A0_0 := At.below A0_0 hbw1
  replace A0_1 := At.below A0_1 hbw1
  replace A1_0 := At.below A1_0 hbw1
  replace A1_1 := At.below A1_1 hbw1
  replace A2_0 := At.below A2_0 hbw1
  replace A2_1 := At.below A2_1 hbw1
  have B := below_alloc (below_alloc (below_alloc (hbw1)))
  clear hbw1
  have F0_0 := A0_0.1; have G0_0 := A0_0.2
  have F0_1 := A0_1.1; have G0_1 := A0_1.2
  have F1_0 := A1_0.1; have G1_0 := A1_0.2
  have F1_1 := A1_1.1; have G1_1 := A1_1.2
  have F2_0 := A2_0.1; have G2_0 := A2_0.2
  have F2_1 := A2_1.1; have G2_1 := A2_1.2
  have Z0 := A0_0.lt
  have Z1 := A1_0.lt
  have Z2 := A2_0.lt
  go_wp2_with fail
  have k0_0 := cell_regrown A0_0.1
  have k0_1 := cell_regrown A0_1.1
  have k1_0 := cell_regrown A1_0.1
  have k1_1 := cell_regrown A1_1.1
  have k2_0 := cell_regrown A2_0.1
  have k2_1 := cell_regrown A2_1.1
  refine wp_region_below (by kernel_rfl) (by kernel_rfl) ?_
  repeat (go_big_quiet_step ((go_at_call 48; exact Calls.regrown_of (ivlzero_any _))))
  refine wpQuiet_nil (fun w2 hbw2 => ?_)
  clear k0_0 k0_1 k1_0 k1_1 k2_0 k2_1
  clear F0_0 G0_0 F0_1 G0_1 F1_0 G1_0 F1_1 G1_1 F2_0 G2_0 F2_1 G2_1 Z0 Z1 Z2
  replace A0_0 := At.below (A0_0) hbw2
  replace A0_1 := At.below (A0_1) hbw2
  replace A1_0 := At.below (A1_0) hbw2
  replace A1_1 := At.below (A1_1) hbw2
  replace A2_0 := At.below (A2_0) hbw2
  replace A2_1 := At.below (A2_1) hbw2
  replace B := below_step B B.size (hbw2)
  clear hbw2
  have F0_0 := A0_0.1; have G0_0 := A0_0.2
  have F0_1 := A0_1.1; have G0_1 := A0_1.2
  have F1_0 := A1_0.1; have G1_0 := A1_0.2
  have F1_1 := A1_1.1; have G1_1 := A1_1.2
  have F2_0 := A2_0.1; have G2_0 := A2_0.2
  have F2_1 := A2_1.1; have G2_1 := A2_1.2
  have Z0 := A0_0.lt
  have Z1 := A1_0.lt
  have Z2 := A2_0.lt
  go_wp2_with fail
  have k0_0 := cell_regrown A0_0.1
  have k0_1 := cell_regrown A0_1.1
  have k1_0 := cell_regrown A1_0.1
  have k1_1 := cell_regrown A1_1.1
  have k2_0 := cell_regrown A2_0.1
  have k2_1 := cell_regrown A2_1.1
  refine wp_region_below (by kernel_rfl) (by kernel_rfl) ?_
  repeat (go_big_quiet_step ((go_at_call 24; exact quiet_same (ivlinf_any _))))
  refine wpQuiet_nil (fun w3 hbw3 => ?_)
  clear k0_0 k0_1 k1_0 k1_1 k2_0 k2_1
  clear F0_0 G0_0 F0_1 G0_1 F1_0 G1_0 F1_1 G1_1 F2_0 G2_0 F2_1 G2_1 Z0 Z1 Z2
  replace A0_0 := At.below (A0_0) hbw3
  replace A0_1 := At.below (A0_1) hbw3
  replace A1_0 := At.below (A1_0) hbw3
  replace A1_1 := At.below (A1_1) hbw3
  replace A2_0 := At.below (A2_0) hbw3
  replace A2_1 := At.below (A2_1) hbw3
  replace B := below_step B B.size (hbw3)
  clear hbw3
  have F0_0 := A0_0.1; have G0_0 := A0_0.2
  have F0_1 := A0_1.1; have G0_1 := A0_1.2
  have F1_0 := A1_0.1; have G1_0 := A1_0.2
  have F1_1 := A1_1.1; have G1_1 := A1_1.2
  have F2_0 := A2_0.1; have G2_0 := A2_0.2
  have F2_1 := A2_1.1; have G2_1 := A2_1.2
  have Z0 := A0_0.lt
  have Z1 := A1_0.lt
  have Z2 := A2_0.lt
  go_wp2_with (go_at_call 24; refine (ivlinf_any _).mono ?_; rintro e w' ⟨rfl, rfl⟩)
  clear F0_0 G0_0 F0_1 G0_1 F1_0 G1_0 F1_1 G1_1 F2_0 G2_0 F2_1 G2_1 Z0 Z1 Z2
  have n1 : w.heap.size < w3.heap.size := by simpa only [World.size_setCell] using At.lt A0_0
  have n2 : w.heap.size + 1 < w3.heap.size := by simpa only [World.size_setCell] using At.lt A1_0
  have n3 : w.heap.size + 1 + 1 < w3.heap.size := by simpa only [World.size_setCell] using At.lt A2_0
  replace A0_0 : At (World.alloc w3 (.cells #[.float .f64 (ofKey (-PI)), .float .f64 (ofKey (PI))] 27)) _ _ _ := At.alloc (A0_0)
  replace A0_1 : At (World.alloc w3 (.cells #[.float .f64 (ofKey (-PI)), .float .f64 (ofKey (PI))] 27)) _ _ _ := At.alloc (A0_1)
  replace A1_0 : At (World.alloc w3 (.cells #[.float .f64 (ofKey (-PI)), .float .f64 (ofKey (PI))] 27)) _ _ _ := At.alloc (A1_0)
  replace A1_1 : At (World.alloc w3 (.cells #[.float .f64 (ofKey (-PI)), .float .f64 (ofKey (PI))] 27)) _ _ _ := At.alloc (A1_1)
  replace A2_0 : At (World.alloc w3 (.cells #[.float .f64 (ofKey (-PI)), .float .f64 (ofKey (PI))] 27)) _ _ _ := At.alloc (A2_0)
  replace A2_1 : At (World.alloc w3 (.cells #[.float .f64 (ofKey (-PI)), .float .f64 (ofKey (PI))] 27)) _ _ _ := At.alloc (A2_1)
  have A3_0 : At (World.alloc w3 (.cells #[.float .f64 (ofKey (-PI)), .float .f64 (ofKey (PI))] 27)) (w3.heap.size) 0 (.float .f64 (ofKey (-PI))) := ⟨by simp [go_sem], by simp [go_sem]⟩
  have A3_1 : At (World.alloc w3 (.cells #[.float .f64 (ofKey (-PI)), .float .f64 (ofKey (PI))] 27)) (w3.heap.size) 1 (.float .f64 (ofKey (PI))) := ⟨by simp [go_sem], by simp [go_sem]⟩
  have B' : Below w.heap.size w (World.alloc w3 (.cells #[.float .f64 (ofKey (-PI)), .float .f64 (ofKey (PI))] 27)) := (Below.alloc B (by first | exact B.size | (simp only [World.size_setCell, World.size_alloc]; have := B.size; omega)) _)
  clear B
  obtain ⟨w4, hw4⟩ : ∃ w4, w4 = (World.alloc w3 (.cells #[.float .f64 (ofKey (-PI)), .float .f64 (ofKey (PI))] 27)) := ⟨_, rfl⟩
  rw [← hw4]
  replace A0_0 := At.of A0_0 hw4
  replace A0_1 := At.of A0_1 hw4
  replace A1_0 := At.of A1_0 hw4
  replace A1_1 := At.of A1_1 hw4
  replace A2_0 := At.of A2_0 hw4
  replace A2_1 := At.of A2_1 hw4
  replace A3_0 := At.of A3_0 hw4
  replace A3_1 := At.of A3_1 hw4
  have B := below_of B' hw4
  clear B' hw4
  have F0_0 := A0_0.1; have G0_0 := A0_0.2
  have F0_1 := A0_1.1; have G0_1 := A0_1.2
  have F1_0 := A1_0.1; have G1_0 := A1_0.2
  have F1_1 := A1_1.1; have G1_1 := A1_1.2
  have F2_0 := A2_0.1; have G2_0 := A2_0.2
  have F2_1 := A2_1.1; have G2_1 := A2_1.2
  have F3_0 := A3_0.1; have G3_0 := A3_0.2
  have F3_1 := A3_1.1; have G3_1 := A3_1.2
  have Z0 := A0_0.lt
  have Z1 := A1_0.lt
  have Z2 := A2_0.lt
  have Z3 := A3_0.lt
  refine (EL.out _).mono ?_
  rintro e w5 ⟨rfl, hbw5⟩
  clear F0_0 G0_0 F0_1 G0_1 F1_0 G1_0 F1_1 G1_1 F2_0 G2_0 F2_1 G2_1 F3_0 G3_0 F3_1 G3_1 Z0 Z1 Z2 Z3
  replace A0_0 := At.below (A0_0) hbw5
  replace A0_1 := At.below (A0_1) hbw5
  replace A1_0 := At.below (A1_0) hbw5
  replace A1_1 := At.below (A1_1) hbw5
  replace A2_0 := At.below (A2_0) hbw5
  replace A2_1 := At.below (A2_1) hbw5
  replace A3_0 := At.below (A3_0) hbw5
  replace A3_1 := At.below (A3_1) hbw5
  replace B := below_step B B.size (hbw5)
  clear hbw5
  have F0_0 := A0_0.1; have G0_0 := A0_0.2
  have F0_1 := A0_1.1; have G0_1 := A0_1.2
  have F1_0 := A1_0.1; have G1_0 := A1_0.2
  have F1_1 := A1_1.1; have G1_1 := A1_1.2
  have F2_0 := A2_0.1; have G2_0 := A2_0.2
  have F2_1 := A2_1.1; have G2_1 := A2_1.2
  have F3_0 := A3_0.1; have G3_0 := A3_0.2
  have F3_1 := A3_1.1; have G3_1 := A3_1.2
  have Z0 := A0_0.lt
  have Z1 := A1_0.lt
  have Z2 := A2_0.lt
  have Z3 := A3_0.lt
  go_wp2_with fail
  clear F0_0 G0_0 F0_1 G0_1 F1_0 G1_0 F1_1 G1_1 F2_0 G2_0 F2_1 G2_1 F3_0 G3_0 F3_1 G3_1 Z0 Z1 Z2 Z3
  replace A0_0 := At.set_blk (b' := w3.heap.size) (f' := 0) A0_0 (by first | omega | (have := B.size; omega)) (.float .f64 (ofKey (x)))
  replace A0_1 := At.set_blk (b' := w3.heap.size) (f' := 0) A0_1 (by first | omega | (have := B.size; omega)) (.float .f64 (ofKey (x)))
  replace A1_0 := At.set_blk (b' := w3.heap.size) (f' := 0) A1_0 (by first | omega | (have := B.size; omega)) (.float .f64 (ofKey (x)))
  replace A1_1 := At.set_blk (b' := w3.heap.size) (f' := 0) A1_1 (by first | omega | (have := B.size; omega)) (.float .f64 (ofKey (x)))
  replace A2_0 := At.set_blk (b' := w3.heap.size) (f' := 0) A2_0 (by first | omega | (have := B.size; omega)) (.float .f64 (ofKey (x)))
  replace A2_1 := At.set_blk (b' := w3.heap.size) (f' := 0) A2_1 (by first | omega | (have := B.size; omega)) (.float .f64 (ofKey (x)))
  replace A3_0 := At.set_same A3_0 (.float .f64 (ofKey (x)))
  replace A3_1 := At.set_off (f' := 0) A3_1 (by decide) (.float .f64 (ofKey (x)))
  have B' : Below w.heap.size w (World.setCell w5 ⟨w3.heap.size, 0, none⟩ (.float .f64 (ofKey (x)))) := (Below.setCell B (p := ⟨w3.heap.size, 0, none⟩) (by first | (show w.heap.size ≤ w3.heap.size; omega) | (have := B.size; show w.heap.size ≤ w3.heap.size; omega)) (.float .f64 (ofKey (x))))
  clear B
  obtain ⟨w6, hw6⟩ : ∃ w6, w6 = (World.setCell w5 ⟨w3.heap.size, 0, none⟩ (.float .f64 (ofKey (x)))) := ⟨_, rfl⟩
  rw [← hw6]
  replace A0_0 := At.of A0_0 hw6
  replace A0_1 := At.of A0_1 hw6
  replace A1_0 := At.of A1_0 hw6
  replace A1_1 := At.of A1_1 hw6
  replace A2_0 := At.of A2_0 hw6
  replace A2_1 := At.of A2_1 hw6
  replace A3_0 := At.of A3_0 hw6
  replace A3_1 := At.of A3_1 hw6
  have B := below_of B' hw6
  clear B' hw6
  have F0_0 := A0_0.1; have G0_0 := A0_0.2
  have F0_1 := A0_1.1; have G0_1 := A0_1.2
  have F1_0 := A1_0.1; have G1_0 := A1_0.2
  have F1_1 := A1_1.1; have G1_1 := A1_1.2
  have F2_0 := A2_0.1; have G2_0 := A2_0.2
  have F2_1 := A2_1.1; have G2_1 := A2_1.2
  have F3_0 := A3_0.1; have G3_0 := A3_0.2
  have F3_1 := A3_1.1; have G3_1 := A3_1.2
  have Z0 := A0_0.lt
  have Z1 := A1_0.lt
  have Z2 := A2_0.lt
  have Z3 := A3_0.lt
  refine (EH.out _).mono ?_
  rintro e w7 ⟨rfl, hbw7⟩
  clear F0_0 G0_0 F0_1 G0_1 F1_0 G1_0 F1_1 G1_1 F2_0 G2_0 F2_1 G2_1 F3_0 G3_0 F3_1 G3_1 Z0 Z1 Z2 Z3
  replace A0_0 := At.below (A0_0) hbw7
  replace A0_1 := At.below (A0_1) hbw7
  replace A1_0 := At.below (A1_0) hbw7
  replace A1_1 := At.below (A1_1) hbw7
  replace A2_0 := At.below (A2_0) hbw7
  replace A2_1 := At.below (A2_1) hbw7
  replace A3_0 := At.below (A3_0) hbw7
  replace A3_1 := At.below (A3_1) hbw7
  replace B := below_step B B.size (hbw7)
  clear hbw7
  have F0_0 := A0_0.1; have G0_0 := A0_0.2
  have F0_1 := A0_1.1; have G0_1 := A0_1.2
  have F1_0 := A1_0.1; have G1_0 := A1_0.2
  have F1_1 := A1_1.1; have G1_1 := A1_1.2
  have F2_0 := A2_0.1; have G2_0 := A2_0.2
  have F2_1 := A2_1.1; have G2_1 := A2_1.2
  have F3_0 := A3_0.1; have G3_0 := A3_0.2
  have F3_1 := A3_1.1; have G3_1 := A3_1.2
  have Z0 := A0_0.lt
  have Z1 := A1_0.lt
  have Z2 := A2_0.lt
  have Z3 := A3_0.lt
  go_wp2_with fail
  clear F0_0 G0_0 F0_1 G0_1 F1_0 G1_0 F1_1 G1_1 F2_0 G2_0 F2_1 G2_1 F3_0 G3_0 F3_1 G3_1 Z0 Z1 Z2 Z3
  replace A0_0 := At.set_blk (b' := w3.heap.size) (f' := 1) A0_0 (by first | omega | (have := B.size; omega)) (.float .f64 (ofKey (y)))
  replace A0_1 := At.set_blk (b' := w3.heap.size) (f' := 1) A0_1 (by first | omega | (have := B.size; omega)) (.float .f64 (ofKey (y)))
  replace A1_0 := At.set_blk (b' := w3.heap.size) (f' := 1) A1_0 (by first | omega | (have := B.size; omega)) (.float .f64 (ofKey (y)))
  replace A1_1 := At.set_blk (b' := w3.heap.size) (f' := 1) A1_1 (by first | omega | (have := B.size; omega)) (.float .f64 (ofKey (y)))
  replace A2_0 := At.set_blk (b' := w3.heap.size) (f' := 1) A2_0 (by first | omega | (have := B.size; omega)) (.float .f64 (ofKey (y)))
  replace A2_1 := At.set_blk (b' := w3.heap.size) (f' := 1) A2_1 (by first | omega | (have := B.size; omega)) (.float .f64 (ofKey (y)))
  replace A3_0 := At.set_off (f' := 1) A3_0 (by decide) (.float .f64 (ofKey (y)))
  replace A3_1 := At.set_same A3_1 (.float .f64 (ofKey (y)))
  replace A0_0 := At.set_blk (b' := w.heap.size + 1 + 1) (f' := 0) A0_0 (by first | omega | (have := B.size; omega)) (.float .f64 (ofKey (x)))
  replace A0_1 := At.set_blk (b' := w.heap.size + 1 + 1) (f' := 0) A0_1 (by first | omega | (have := B.size; omega)) (.float .f64 (ofKey (x)))
  replace A1_0 := At.set_blk (b' := w.heap.size + 1 + 1) (f' := 0) A1_0 (by first | omega | (have := B.size; omega)) (.float .f64 (ofKey (x)))
  replace A1_1 := At.set_blk (b' := w.heap.size + 1 + 1) (f' := 0) A1_1 (by first | omega | (have := B.size; omega)) (.float .f64 (ofKey (x)))
  replace A2_0 := At.set_same A2_0 (.float .f64 (ofKey (x)))
  replace A2_1 := At.set_off (f' := 0) A2_1 (by decide) (.float .f64 (ofKey (x)))
  replace A3_0 := At.set_blk (b' := w.heap.size + 1 + 1) (f' := 0) A3_0 (by first | omega | (have := B.size; omega)) (.float .f64 (ofKey (x)))
  replace A3_1 := At.set_blk (b' := w.heap.size + 1 + 1) (f' := 0) A3_1 (by first | omega | (have := B.size; omega)) (.float .f64 (ofKey (x)))
  replace A0_0 := At.set_blk (b' := w.heap.size + 1 + 1) (f' := 1) A0_0 (by first | omega | (have := B.size; omega)) (.float .f64 (ofKey (y)))
  replace A0_1 := At.set_blk (b' := w.heap.size + 1 + 1) (f' := 1) A0_1 (by first | omega | (have := B.size; omega)) (.float .f64 (ofKey (y)))
  replace A1_0 := At.set_blk (b' := w.heap.size + 1 + 1) (f' := 1) A1_0 (by first | omega | (have := B.size; omega)) (.float .f64 (ofKey (y)))
  replace A1_1 := At.set_blk (b' := w.heap.size + 1 + 1) (f' := 1) A1_1 (by first | omega | (have := B.size; omega)) (.float .f64 (ofKey (y)))
  replace A2_0 := At.set_off (f' := 1) A2_0 (by decide) (.float .f64 (ofKey (y)))
  replace A2_1 := At.set_same A2_1 (.float .f64 (ofKey (y)))
  replace A3_0 := At.set_blk (b' := w.heap.size + 1 + 1) (f' := 1) A3_0 (by first | omega | (have := B.size; omega)) (.float .f64 (ofKey (y)))
  replace A3_1 := At.set_blk (b' := w.heap.size + 1 + 1) (f' := 1) A3_1 (by first | omega | (have := B.size; omega)) (.float .f64 (ofKey (y)))
  have B' : Below w.heap.size w (World.setCell (World.setCell (World.setCell w7 ⟨w3.heap.size, 1, none⟩ (.float .f64 (ofKey (y)))) ⟨w.heap.size + 1 + 1, 0, none⟩ (.float .f64 (ofKey (x)))) ⟨w.heap.size + 1 + 1, 1, none⟩ (.float .f64 (ofKey (y)))) := (Below.setCell (Below.setCell (Below.setCell B (p := ⟨w3.heap.size, 1, none⟩) (by first | (show w.heap.size ≤ w3.heap.size; omega) | (have := B.size; show w.heap.size ≤ w3.heap.size; omega)) (.float .f64 (ofKey (y)))) (p := ⟨w.heap.size + 1 + 1, 0, none⟩) (by first | (show w.heap.size ≤ w.heap.size + 1 + 1; omega) | (have := B.size; show w.heap.size ≤ w.heap.size + 1 + 1; omega)) (.float .f64 (ofKey (x)))) (p := ⟨w.heap.size + 1 + 1, 1, none⟩) (by first | (show w.heap.size ≤ w.heap.size + 1 + 1; omega) | (have := B.size; show w.heap.size ≤ w.heap.size + 1 + 1; omega)) (.float .f64 (ofKey (y))))
  clear B
  obtain ⟨wz, hwz⟩ : ∃ wz, wz = (World.setCell (World.setCell (World.setCell w7 ⟨w3.heap.size, 1, none⟩ (.float .f64 (ofKey (y)))) ⟨w.heap.size + 1 + 1, 0, none⟩ (.float .f64 (ofKey (x)))) ⟨w.heap.size + 1 + 1, 1, none⟩ (.float .f64 (ofKey (y)))) := ⟨_, rfl⟩
  rw [← hwz]
  replace A0_0 := At.of A0_0 hwz
  replace A0_1 := At.of A0_1 hwz
  replace A1_0 := At.of A1_0 hwz
  replace A1_1 := At.of A1_1 hwz
  replace A2_0 := At.of A2_0 hwz
  replace A2_1 := At.of A2_1 hwz
  replace A3_0 := At.of A3_0 hwz
  replace A3_1 := At.of A3_1 hwz
  have B := below_of B' hwz
  clear B' hwz
  have F0_0 := A0_0.1; have G0_0 := A0_0.2
  have F0_1 := A0_1.1; have G0_1 := A0_1.2
  have F1_0 := A1_0.1; have G1_0 := A1_0.2
  have F1_1 := A1_1.1; have G1_1 := A1_1.2
  have F2_0 := A2_0.1; have G2_0 := A2_0.2
  have F2_1 := A2_1.1; have G2_1 := A2_1.2
  have F3_0 := A3_0.1; have G3_0 := A3_0.2
  have F3_1 := A3_1.1; have G3_1 := A3_1.2
  have Z0 := A0_0.lt
  have Z1 := A1_0.lt
  have Z2 := A2_0.lt
  have Z3 := A3_0.lt
  refine bodyPost_ret (v := .agg #[.float .f64 (ofKey (x)), .float .f64 (ofKey (y))]) (by simp [results, Try.results34, go_sem, F2_0, F2_1]) rfl ⟨rfl, ?_⟩
  exact B

set_option maxHeartbeats 1000000 in
theorem div_p3iNP (a b c d : Int) (ha : Rg a) (hb : Rg b) (hc : Rg c) (hd : Rg d) (h0 : 0 ≤ c) (h1 : 0 < d) (hAB : (decide (a = 0) && decide (b = 0)) = false) (h2 : 0 < c) (h3 : d = PI) (h4 : a < 0) (h5 : 0 < b) (w : World) :
    Calls Try.prog 34 #[.agg #[.float .f64 (ofKey (a)), .float .f64 (ofKey (b))], .agg #[.float .f64 (ofKey (c)), .float .f64 (ofKey (d))]] w fun e w' => e = .returned (.agg #[.float .f64 (ofKey (endK 9 a c false)), .float .f64 (ofKey (endK 9 b c true))]) ∧ Below w.heap.size w w' := by
  have he := eqiv
  have hP := PI_pos
  have q1 := ha.1; have q2 := ha.2; have q3 := hb.1; have q4 := hb.2; have q5 := hc.1; have q6 := hc.2; have q7 := hd.1; have q8 := hd.2
  have dD : decide (d = 0) = false := decide_eq_false (by omega)
  have dI : decide (d < PI) = false := decide_eq_false (by omega)
  have dp : decide (0 < c) = true := decide_eq_true (by omega)
  have EL := Lib.hid (fun w => ivlend_any 9 a c false ha hc (.inr (.inr ⟨rfl, by omega⟩)) w)
  generalize endK 9 a c false = x at *
  have EH := Lib.hid (fun w => ivlend_any 9 b c true hb hc (.inr (.inr ⟨rfl, by omega⟩)) w)
  generalize endK 9 b c true = y at *
  clear h3
  go_enter Try.func34, Try.ntmps34
  go_wp2_with fail
  have A0_0 : At (World.alloc (World.alloc (World.alloc w (.cells #[.float .f64 (ofKey (a)), .float .f64 (ofKey (b))] 27)) (.cells #[.float .f64 (ofKey (c)), .float .f64 (ofKey (d))] 27)) (.cells #[.float .f64 (0), .float .f64 (0)] 27)) (w.heap.size) 0 (.float .f64 (ofKey (a))) := ⟨by simp [go_sem], by simp [go_sem]⟩
  have A0_1 : At (World.alloc (World.alloc (World.alloc w (.cells #[.float .f64 (ofKey (a)), .float .f64 (ofKey (b))] 27)) (.cells #[.float .f64 (ofKey (c)), .float .f64 (ofKey (d))] 27)) (.cells #[.float .f64 (0), .float .f64 (0)] 27)) (w.heap.size) 1 (.float .f64 (ofKey (b))) := ⟨by simp [go_sem], by simp [go_sem]⟩
  have A1_0 : At (World.alloc (World.alloc (World.alloc w (.cells #[.float .f64 (ofKey (a)), .float .f64 (ofKey (b))] 27)) (.cells #[.float .f64 (ofKey (c)), .float .f64 (ofKey (d))] 27)) (.cells #[.float .f64 (0), .float .f64 (0)] 27)) (w.heap.size + 1) 0 (.float .f64 (ofKey (c))) := ⟨by simp [go_sem], by simp [go_sem]⟩
  have A1_1 : At (World.alloc (World.alloc (World.alloc w (.cells #[.float .f64 (ofKey (a)), .float .f64 (ofKey (b))] 27)) (.cells #[.float .f64 (ofKey (c)), .float .f64 (ofKey (d))] 27)) (.cells #[.float .f64 (0), .float .f64 (0)] 27)) (w.heap.size + 1) 1 (.float .f64 (ofKey (d))) := ⟨by simp [go_sem], by simp [go_sem]⟩
  have A2_0 : At (World.alloc (World.alloc (World.alloc w (.cells #[.float .f64 (ofKey (a)), .float .f64 (ofKey (b))] 27)) (.cells #[.float .f64 (ofKey (c)), .float .f64 (ofKey (d))] 27)) (.cells #[.float .f64 (0), .float .f64 (0)] 27)) (w.heap.size + 1 + 1) 0 (.float .f64 (0)) := ⟨by simp [go_sem], by simp [go_sem]⟩
  have A2_1 : At (World.alloc (World.alloc (World.alloc w (.cells #[.float .f64 (ofKey (a)), .float .f64 (ofKey (b))] 27)) (.cells #[.float .f64 (ofKey (c)), .float .f64 (ofKey (d))] 27)) (.cells #[.float .f64 (0), .float .f64 (0)] 27)) (w.heap.size + 1 + 1) 1 (.float .f64 (0)) := ⟨by simp [go_sem], by simp [go_sem]⟩
  have k0_0 := cell_regrown A0_0.1
  have k0_1 := cell_regrown A0_1.1
  have k1_0 := cell_regrown A1_0.1
  have k1_1 := cell_regrown A1_1.1
  have k2_0 := cell_regrown A2_0.1
  have k2_1 := cell_regrown A2_1.1
  refine wp_region_below (by kernel_rfl) (by kernel_rfl) ?_
  repeat (go_big_quiet_step ((go_at_call 48; exact Calls.regrown_of (ivlzero_any _))))
  refine wpQuiet_nil (fun w1 hbw1 => ?_)
  clear k0_0 k0_1 k1_0 k1_1 k2_0 k2_1
  replace A0_0 := At.below A0_0 hbw1
  replace A0_1 := At.below A0_1 hbw1
  replace A1_0 := At.below A1_0 hbw1
  replace A1_1 := At.below A1_1 hbw1
  replace A2_0 := At.below A2_0 hbw1
  replace A2_1 := At.below A2_1 hbw1
  have B := below_alloc (below_alloc (below_alloc (hbw1)))
  clear hbw1
  have F0_0 := A0_0.1; have G0_0 := A0_0.2
  have F0_1 := A0_1.1; have G0_1 := A0_1.2
  have F1_0 := A1_0.1; have G1_0 := A1_0.2
  have F1_1 := A1_1.1; have G1_1 := A1_1.2
  have F2_0 := A2_0.1; have G2_0 := A2_0.2
  have F2_1 := A2_1.1; have G2_1 := A2_1.2
  have Z0 := A0_0.lt
  have Z1 := A1_0.lt
  have Z2 := A2_0.lt
  go_wp2_with fail
  have k0_0 := cell_regrown A0_0.1
  have k0_1 := cell_regrown A0_1.1
  have k1_0 := cell_regrown A1_0.1
  have k1_1 := cell_regrown A1_1.1
  have k2_0 := cell_regrown A2_0.1
  have k2_1 := cell_regrown A2_1.1
  refine wp_region_below (by kernel_rfl) (by kernel_rfl) ?_
  repeat (go_big_quiet_step ((go_at_call 48; exact Calls.regrown_of (ivlzero_any _))))
  refine wpQuiet_nil (fun w2 hbw2 => ?_)
  clear k0_0 k0_1 k1_0 k1_1 k2_0 k2_1
  clear F0_0 G0_0 F0_1 G0_1 F1_0 G1_0 F1_1 G1_1 F2_0 G2_0 F2_1 G2_1 Z0 Z1 Z2
  replace A0_0 := At.below (A0_0) hbw2
  replace A0_1 := At.below (A0_1) hbw2
  replace A1_0 := At.below (A1_0) hbw2
  replace A1_1 := At.below (A1_1) hbw2
  replace A2_0 := At.below (A2_0) hbw2
  replace A2_1 := At.below (A2_1) hbw2
  replace B := below_step B B.size (hbw2)
  clear hbw2
  have F0_0 := A0_0.1; have G0_0 := A0_0.2
  have F0_1 := A0_1.1; have G0_1 := A0_1.2
  have F1_0 := A1_0.1; have G1_0 := A1_0.2
  have F1_1 := A1_1.1; have G1_1 := A1_1.2
  have F2_0 := A2_0.1; have G2_0 := A2_0.2
  have F2_1 := A2_1.1; have G2_1 := A2_1.2
  have Z0 := A0_0.lt
  have Z1 := A1_0.lt
  have Z2 := A2_0.lt
  go_wp2_with fail
  have k0_0 := cell_regrown A0_0.1
  have k0_1 := cell_regrown A0_1.1
  have k1_0 := cell_regrown A1_0.1
  have k1_1 := cell_regrown A1_1.1
  have k2_0 := cell_regrown A2_0.1
  have k2_1 := cell_regrown A2_1.1
  refine wp_region_below (by kernel_rfl) (by kernel_rfl) ?_
  repeat (go_big_quiet_step ((go_at_call 24; exact quiet_same (ivlinf_any _))))
  refine wpQuiet_nil (fun w3 hbw3 => ?_)
  clear k0_0 k0_1 k1_0 k1_1 k2_0 k2_1
  clear F0_0 G0_0 F0_1 G0_1 F1_0 G1_0 F1_1 G1_1 F2_0 G2_0 F2_1 G2_1 Z0 Z1 Z2
  replace A0_0 := At.below (A0_0) hbw3
  replace A0_1 := At.below (A0_1) hbw3
  replace A1_0 := At.below (A1_0) hbw3
  replace A1_1 := At.below (A1_1) hbw3
  replace A2_0 := At.below (A2_0) hbw3
  replace A2_1 := At.below (A2_1) hbw3
  replace B := below_step B B.size (hbw3)
  clear hbw3
  have F0_0 := A0_0.1; have G0_0 := A0_0.2
  have F0_1 := A0_1.1; have G0_1 := A0_1.2
  have F1_0 := A1_0.1; have G1_0 := A1_0.2
  have F1_1 := A1_1.1; have G1_1 := A1_1.2
  have F2_0 := A2_0.1; have G2_0 := A2_0.2
  have F2_1 := A2_1.1; have G2_1 := A2_1.2
  have Z0 := A0_0.lt
  have Z1 := A1_0.lt
  have Z2 := A2_0.lt
  go_wp2_with (go_at_call 24; refine (ivlinf_any _).mono ?_; rintro e w' ⟨rfl, rfl⟩)
  clear F0_0 G0_0 F0_1 G0_1 F1_0 G1_0 F1_1 G1_1 F2_0 G2_0 F2_1 G2_1 Z0 Z1 Z2
  have n1 : w.heap.size < w3.heap.size := by simpa only [World.size_setCell] using At.lt A0_0
  have n2 : w.heap.size + 1 < w3.heap.size := by simpa only [World.size_setCell] using At.lt A1_0
  have n3 : w.heap.size + 1 + 1 < w3.heap.size := by simpa only [World.size_setCell] using At.lt A2_0
  replace A0_0 : At (World.alloc w3 (.cells #[.float .f64 (ofKey (-PI)), .float .f64 (ofKey (PI))] 27)) _ _ _ := At.alloc (A0_0)
  replace A0_1 : At (World.alloc w3 (.cells #[.float .f64 (ofKey (-PI)), .float .f64 (ofKey (PI))] 27)) _ _ _ := At.alloc (A0_1)
  replace A1_0 : At (World.alloc w3 (.cells #[.float .f64 (ofKey (-PI)), .float .f64 (ofKey (PI))] 27)) _ _ _ := At.alloc (A1_0)
  replace A1_1 : At (World.alloc w3 (.cells #[.float .f64 (ofKey (-PI)), .float .f64 (ofKey (PI))] 27)) _ _ _ := At.alloc (A1_1)
  replace A2_0 : At (World.alloc w3 (.cells #[.float .f64 (ofKey (-PI)), .float .f64 (ofKey (PI))] 27)) _ _ _ := At.alloc (A2_0)
  replace A2_1 : At (World.alloc w3 (.cells #[.float .f64 (ofKey (-PI)), .float .f64 (ofKey (PI))] 27)) _ _ _ := At.alloc (A2_1)
  have A3_0 : At (World.alloc w3 (.cells #[.float .f64 (ofKey (-PI)), .float .f64 (ofKey (PI))] 27)) (w3.heap.size) 0 (.float .f64 (ofKey (-PI))) := ⟨by simp [go_sem], by simp [go_sem]⟩
  have A3_1 : At (World.alloc w3 (.cells #[.float .f64 (ofKey (-PI)), .float .f64 (ofKey (PI))] 27)) (w3.heap.size) 1 (.float .f64 (ofKey (PI))) := ⟨by simp [go_sem], by simp [go_sem]⟩
  have B' : Below w.heap.size w (World.alloc w3 (.cells #[.float .f64 (ofKey (-PI)), .float .f64 (ofKey (PI))] 27)) := (Below.alloc B (by first | exact B.size | (simp only [World.size_setCell, World.size_alloc]; have := B.size; omega)) _)
  clear B
  obtain ⟨w4, hw4⟩ : ∃ w4, w4 = (World.alloc w3 (.cells #[.float .f64 (ofKey (-PI)), .float .f64 (ofKey (PI))] 27)) := ⟨_, rfl⟩
  rw [← hw4]
  replace A0_0 := At.of A0_0 hw4
  replace A0_1 := At.of A0_1 hw4
  replace A1_0 := At.of A1_0 hw4
  replace A1_1 := At.of A1_1 hw4
  replace A2_0 := At.of A2_0 hw4
  replace A2_1 := At.of A2_1 hw4
  replace A3_0 := At.of A3_0 hw4
  replace A3_1 := At.of A3_1 hw4
  have B := below_of B' hw4
  clear B' hw4
  have F0_0 := A0_0.1; have G0_0 := A0_0.2
  have F0_1 := A0_1.1; have G0_1 := A0_1.2
  have F1_0 := A1_0.1; have G1_0 := A1_0.2
  have F1_1 := A1_1.1; have G1_1 := A1_1.2
  have F2_0 := A2_0.1; have G2_0 := A2_0.2
  have F2_1 := A2_1.1; have G2_1 := A2_1.2
  have F3_0 := A3_0.1; have G3_0 := A3_0.2
  have F3_1 := A3_1.1; have G3_1 := A3_1.2
  have Z0 := A0_0.lt
  have Z1 := A1_0.lt
  have Z2 := A2_0.lt
  have Z3 := A3_0.lt
  refine (EL.out _).mono ?_
  rintro e w5 ⟨rfl, hbw5⟩
  clear F0_0 G0_0 F0_1 G0_1 F1_0 G1_0 F1_1 G1_1 F2_0 G2_0 F2_1 G2_1 F3_0 G3_0 F3_1 G3_1 Z0 Z1 Z2 Z3
  replace A0_0 := At.below (A0_0) hbw5
  replace A0_1 := At.below (A0_1) hbw5
  replace A1_0 := At.below (A1_0) hbw5
  replace A1_1 := At.below (A1_1) hbw5
  replace A2_0 := At.below (A2_0) hbw5
  replace A2_1 := At.below (A2_1) hbw5
  replace A3_0 := At.below (A3_0) hbw5
  replace A3_1 := At.below (A3_1) hbw5
  replace B := below_step B B.size (hbw5)
  clear hbw5
  have F0_0 := A0_0.1; have G0_0 := A0_0.2
  have F0_1 := A0_1.1; have G0_1 := A0_1.2
  have F1_0 := A1_0.1; have G1_0 := A1_0.2
  have F1_1 := A1_1.1; have G1_1 := A1_1.2
  have F2_0 := A2_0.1; have G2_0 := A2_0.2
  have F2_1 := A2_1.1; have G2_1 := A2_1.2
  have F3_0 := A3_0.1; have G3_0 := A3_0.2
  have F3_1 := A3_1.1; have G3_1 := A3_1.2
  have Z0 := A0_0.lt
  have Z1 := A1_0.lt
  have Z2 := A2_0.lt
  have Z3 := A3_0.lt
  go_wp2_with fail
  clear F0_0 G0_0 F0_1 G0_1 F1_0 G1_0 F1_1 G1_1 F2_0 G2_0 F2_1 G2_1 F3_0 G3_0 F3_1 G3_1 Z0 Z1 Z2 Z3
  replace A0_0 := At.set_blk (b' := w3.heap.size) (f' := 0) A0_0 (by first | omega | (have := B.size; omega)) (.float .f64 (ofKey (x)))
  replace A0_1 := At.set_blk (b' := w3.heap.size) (f' := 0) A0_1 (by first | omega | (have := B.size; omega)) (.float .f64 (ofKey (x)))
  replace A1_0 := At.set_blk (b' := w3.heap.size) (f' := 0) A1_0 (by first | omega | (have := B.size; omega)) (.float .f64 (ofKey (x)))
  replace A1_1 := At.set_blk (b' := w3.heap.size) (f' := 0) A1_1 (by first | omega | (have := B.size; omega)) (.float .f64 (ofKey (x)))
  replace A2_0 := At.set_blk (b' := w3.heap.size) (f' := 0) A2_0 (by first | omega | (have := B.size; omega)) (.float .f64 (ofKey (x)))
  replace A2_1 := At.set_blk (b' := w3.heap.size) (f' := 0) A2_1 (by first | omega | (have := B.size; omega)) (.float .f64 (ofKey (x)))
  replace A3_0 := At.set_same A3_0 (.float .f64 (ofKey (x)))
  replace A3_1 := At.set_off (f' := 0) A3_1 (by decide) (.float .f64 (ofKey (x)))
  have B' : Below w.heap.size w (World.setCell w5 ⟨w3.heap.size, 0, none⟩ (.float .f64 (ofKey (x)))) := (Below.setCell B (p := ⟨w3.heap.size, 0, none⟩) (by first | (show w.heap.size ≤ w3.heap.size; omega) | (have := B.size; show w.heap.size ≤ w3.heap.size; omega)) (.float .f64 (ofKey (x))))
  clear B
  obtain ⟨w6, hw6⟩ : ∃ w6, w6 = (World.setCell w5 ⟨w3.heap.size, 0, none⟩ (.float .f64 (ofKey (x)))) := ⟨_, rfl⟩
  rw [← hw6]
  replace A0_0 := At.of A0_0 hw6
  replace A0_1 := At.of A0_1 hw6
  replace A1_0 := At.of A1_0 hw6
  replace A1_1 := At.of A1_1 hw6
  replace A2_0 := At.of A2_0 hw6
  replace A2_1 := At.of A2_1 hw6
  replace A3_0 := At.of A3_0 hw6
  replace A3_1 := At.of A3_1 hw6
  have B := below_of B' hw6
  clear B' hw6
  have F0_0 := A0_0.1; have G0_0 := A0_0.2
  have F0_1 := A0_1.1; have G0_1 := A0_1.2
  have F1_0 := A1_0.1; have G1_0 := A1_0.2
  have F1_1 := A1_1.1; have G1_1 := A1_1.2
  have F2_0 := A2_0.1; have G2_0 := A2_0.2
  have F2_1 := A2_1.1; have G2_1 := A2_1.2
  have F3_0 := A3_0.1; have G3_0 := A3_0.2
  have F3_1 := A3_1.1; have G3_1 := A3_1.2
  have Z0 := A0_0.lt
  have Z1 := A1_0.lt
  have Z2 := A2_0.lt
  have Z3 := A3_0.lt
  refine (EH.out _).mono ?_
  rintro e w7 ⟨rfl, hbw7⟩
  clear F0_0 G0_0 F0_1 G0_1 F1_0 G1_0 F1_1 G1_1 F2_0 G2_0 F2_1 G2_1 F3_0 G3_0 F3_1 G3_1 Z0 Z1 Z2 Z3
  replace A0_0 := At.below (A0_0) hbw7
  replace A0_1 := At.below (A0_1) hbw7
  replace A1_0 := At.below (A1_0) hbw7
  replace A1_1 := At.below (A1_1) hbw7
  replace A2_0 := At.below (A2_0) hbw7
  replace A2_1 := At.below (A2_1) hbw7
  replace A3_0 := At.below (A3_0) hbw7
  replace A3_1 := At.below (A3_1) hbw7
  replace B := below_step B B.size (hbw7)
  clear hbw7
  have F0_0 := A0_0.1; have G0_0 := A0_0.2
  have F0_1 := A0_1.1; have G0_1 := A0_1.2
  have F1_0 := A1_0.1; have G1_0 := A1_0.2
  have F1_1 := A1_1.1; have G1_1 := A1_1.2
  have F2_0 := A2_0.1; have G2_0 := A2_0.2
  have F2_1 := A2_1.1; have G2_1 := A2_1.2
  have F3_0 := A3_0.1; have G3_0 := A3_0.2
  have F3_1 := A3_1.1; have G3_1 := A3_1.2
  have Z0 := A0_0.lt
  have Z1 := A1_0.lt
  have Z2 := A2_0.lt
  have Z3 := A3_0.lt
  go_wp2_with fail
  clear F0_0 G0_0 F0_1 G0_1 F1_0 G1_0 F1_1 G1_1 F2_0 G2_0 F2_1 G2_1 F3_0 G3_0 F3_1 G3_1 Z0 Z1 Z2 Z3
  replace A0_0 := At.set_blk (b' := w3.heap.size) (f' := 1) A0_0 (by first | omega | (have := B.size; omega)) (.float .f64 (ofKey (y)))
  replace A0_1 := At.set_blk (b' := w3.heap.size) (f' := 1) A0_1 (by first | omega | (have := B.size; omega)) (.float .f64 (ofKey (y)))
  replace A1_0 := At.set_blk (b' := w3.heap.size) (f' := 1) A1_0 (by first | omega | (have := B.size; omega)) (.float .f64 (ofKey (y)))
  replace A1_1 := At.set_blk (b' := w3.heap.size) (f' := 1) A1_1 (by first | omega | (have := B.size; omega)) (.float .f64 (ofKey (y)))
  replace A2_0 := At.set_blk (b' := w3.heap.size) (f' := 1) A2_0 (by first | omega | (have := B.size; omega)) (.float .f64 (ofKey (y)))
  replace A2_1 := At.set_blk (b' := w3.heap.size) (f' := 1) A2_1 (by first | omega | (have := B.size; omega)) (.float .f64 (ofKey (y)))
  replace A3_0 := At.set_off (f' := 1) A3_0 (by decide) (.float .f64 (ofKey (y)))
  replace A3_1 := At.set_same A3_1 (.float .f64 (ofKey (y)))
  replace A0_0 := At.set_blk (b' := w.heap.size + 1 + 1) (f' := 0) A0_0 (by first | omega | (have := B.size; omega)) (.float .f64 (ofKey (x)))
  replace A0_1 := At.set_blk (b' := w.heap.size + 1 + 1) (f' := 0) A0_1 (by first | omega | (have := B.size; omega)) (.float .f64 (ofKey (x)))
  replace A1_0 := At.set_blk (b' := w.heap.size + 1 + 1) (f' := 0) A1_0 (by first | omega | (have := B.size; omega)) (.float .f64 (ofKey (x)))
  replace A1_1 := At.set_blk (b' := w.heap.size + 1 + 1) (f' := 0) A1_1 (by first | omega | (have := B.size; omega)) (.float .f64 (ofKey (x)))
  replace A2_0 := At.set_same A2_0 (.float .f64 (ofKey (x)))
  replace A2_1 := At.set_off (f' := 0) A2_1 (by decide) (.float .f64 (ofKey (x)))
  replace A3_0 := At.set_blk (b' := w.heap.size + 1 + 1) (f' := 0) A3_0 (by first | omega | (have := B.size; omega)) (.float .f64 (ofKey (x)))
  replace A3_1 := At.set_blk (b' := w.heap.size + 1 + 1) (f' := 0) A3_1 (by first | omega | (have := B.size; omega)) (.float .f64 (ofKey (x)))
  replace A0_0 := At.set_blk (b' := w.heap.size + 1 + 1) (f' := 1) A0_0 (by first | omega | (have := B.size; omega)) (.float .f64 (ofKey (y)))
  replace A0_1 := At.set_blk (b' := w.heap.size + 1 + 1) (f' := 1) A0_1 (by first | omega | (have := B.size; omega)) (.float .f64 (ofKey (y)))
  replace A1_0 := At.set_blk (b' := w.heap.size + 1 + 1) (f' := 1) A1_0 (by first | omega | (have := B.size; omega)) (.float .f64 (ofKey (y)))
  replace A1_1 := At.set_blk (b' := w.heap.size + 1 + 1) (f' := 1) A1_1 (by first | omega | (have := B.size; omega)) (.float .f64 (ofKey (y)))
  replace A2_0 := At.set_off (f' := 1) A2_0 (by decide) (.float .f64 (ofKey (y)))
  replace A2_1 := At.set_same A2_1 (.float .f64 (ofKey (y)))
  replace A3_0 := At.set_blk (b' := w.heap.size + 1 + 1) (f' := 1) A3_0 (by first | omega | (have := B.size; omega)) (.float .f64 (ofKey (y)))
  replace A3_1 := At.set_blk (b' := w.heap.size + 1 + 1) (f' := 1) A3_1 (by first | omega | (have := B.size; omega)) (.float .f64 (ofKey (y)))
  have B' : Below w.heap.size w (World.setCell (World.setCell (World.setCell w7 ⟨w3.heap.size, 1, none⟩ (.float .f64 (ofKey (y)))) ⟨w.heap.size + 1 + 1, 0, none⟩ (.float .f64 (ofKey (x)))) ⟨w.heap.size + 1 + 1, 1, none⟩ (.float .f64 (ofKey (y)))) := (Below.setCell (Below.setCell (Below.setCell B (p := ⟨w3.heap.size, 1, none⟩) (by first | (show w.heap.size ≤ w3.heap.size; omega) | (have := B.size; show w.heap.size ≤ w3.heap.size; omega)) (.float .f64 (ofKey (y)))) (p := ⟨w.heap.size + 1 + 1, 0, none⟩) (by first | (show w.heap.size ≤ w.heap.size + 1 + 1; omega) | (have := B.size; show w.heap.size ≤ w.heap.size + 1 + 1; omega)) (.float .f64 (ofKey (x)))) (p := ⟨w.heap.size + 1 + 1, 1, none⟩) (by first | (show w.heap.size ≤ w.heap.size + 1 + 1; omega) | (have := B.size; show w.heap.size ≤ w.heap.size + 1 + 1; omega)) (.float .f64 (ofKey (y))))
  clear B
  obtain ⟨wz, hwz⟩ : ∃ wz, wz = (World.setCell (World.setCell (World.setCell w7 ⟨w3.heap.size, 1, none⟩ (.float .f64 (ofKey (y)))) ⟨w.heap.size + 1 + 1, 0, none⟩ (.float .f64 (ofKey (x)))) ⟨w.heap.size + 1 + 1, 1, none⟩ (.float .f64 (ofKey (y)))) := ⟨_, rfl⟩
  rw [← hwz]
  replace A0_0 := At.of A0_0 hwz
  replace A0_1 := At.of A0_1 hwz
  replace A1_0 := At.of A1_0 hwz
  replace A1_1 := At.of A1_1 hwz
  replace A2_0 := At.of A2_0 hwz
  replace A2_1 := At.of A2_1 hwz
  replace A3_0 := At.of A3_0 hwz
  replace A3_1 := At.of A3_1 hwz
  have B := below_of B' hwz
  clear B' hwz
  have F0_0 := A0_0.1; have G0_0 := A0_0.2
  have F0_1 := A0_1.1; have G0_1 := A0_1.2
  have F1_0 := A1_0.1; have G1_0 := A1_0.2
  have F1_1 := A1_1.1; have G1_1 := A1_1.2
  have F2_0 := A2_0.1; have G2_0 := A2_0.2
  have F2_1 := A2_1.1; have G2_1 := A2_1.2
  have F3_0 := A3_0.1; have G3_0 := A3_0.2
  have F3_1 := A3_1.1; have G3_1 := A3_1.2
  have Z0 := A0_0.lt
  have Z1 := A1_0.lt
  have Z2 := A2_0.lt
  have Z3 := A3_0.lt
  refine bodyPost_ret (v := .agg #[.float .f64 (ofKey (x)), .float .f64 (ofKey (y))]) (by simp [results, Try.results34, go_sem, F2_0, F2_1]) rfl ⟨rfl, ?_⟩
  exact B

theorem div_pos (a b c d : Int) (ha : Rg a) (hb : Rg b) (hc : Rg c) (hd : Rg d) (h0 : 0 ≤ c) (h1 : 0 < d) (w : World) :
    Calls Try.prog 34 #[.agg #[.float .f64 (ofKey (a)), .float .f64 (ofKey (b))], .agg #[.float .f64 (ofKey (c)), .float .f64 (ofKey (d))]] w fun e w' => e = .returned (.agg #[.float .f64 (ofKey (divPLo a b c d)), .float .f64 (ofKey (divPHi a b c d))]) ∧ Below w.heap.size w w' := by
  have q8 := hd.2
  by_cases hz : a = 0 ∧ b = 0
  · rw [show divPLo a b c d = 0 by unfold divPLo; rw [if_pos hz], show divPHi a b c d = 0 by unfold divPHi; rw [if_pos hz]]
    exact div_p1 a b c d ha hb hc hd h0 h1 (decide_eq_true hz.1) (decide_eq_true hz.2) w
  · have hAB : (decide (a = 0) && decide (b = 0)) = false := by rw [← Bool.decide_and]; exact decide_eq_false hz
    unfold divPLo divPHi
    rw [if_neg hz, if_neg hz]
    by_cases h2 : 0 < c ∧ d < PI
    · rw [if_pos h2, if_pos h2]
      exact div_p2 a b c d ha hb hc hd h0 h1 hAB h2.1 h2.2 w
    · rw [if_neg h2, if_neg h2]
      by_cases h3 : 0 < c
      · rw [if_pos h3, if_pos h3]
        by_cases h4 : 0 ≤ a
        · rw [if_pos h4]
          by_cases h5 : b ≤ 0
          · rw [if_pos h5]; exact div_p3iPN a b c d ha hb hc hd h0 h1 hAB h3 (by omega) h4 h5 w
          · rw [if_neg h5]; exact div_p3iPP a b c d ha hb hc hd h0 h1 hAB h3 (by omega) h4 (by omega) w
        · rw [if_neg h4]
          by_cases h5 : b ≤ 0
          · rw [if_pos h5]; exact div_p3iNN a b c d ha hb hc hd h0 h1 hAB h3 (by omega) (by omega) h5 w
          · rw [if_neg h5]; exact div_p3iNP a b c d ha hb hc hd h0 h1 hAB h3 (by omega) (by omega) (by omega) w
      · rw [if_neg h3, if_neg h3]
        by_cases h4 : 0 ≤ a
        · rw [if_pos h4]
          by_cases h5 : b ≤ 0
          · rw [if_pos h5]; exact div_p3zPN a b c d ha hb hc hd h0 h1 hAB (by omega) h4 h5 w
          · rw [if_neg h5]; exact div_p3zPP a b c d ha hb hc hd h0 h1 hAB (by omega) h4 (by omega) w
        · rw [if_neg h4]
          by_cases h5 : b ≤ 0
          · rw [if_pos h5]; exact div_p3zNN a b c d ha hb hc hd h0 h1 hAB (by omega) (by omega) h5 w
          · rw [if_neg h5]; exact div_p3zNP a b c d ha hb hc hd h0 h1 hAB (by omega) (by omega) (by omega) w

set_option maxHeartbeats 1000000 in
theorem div_1 (a b c d : Int) (ha : Rg a) (hb : Rg b) (hc : Rg c) (hd : Rg d) (dC : decide (c = 0) = true) (dD : decide (d = 0) = true) (w : World) :
    Calls Try.prog 34 #[.agg #[.float .f64 (ofKey (a)), .float .f64 (ofKey (b))], .agg #[.float .f64 (ofKey (c)), .float .f64 (ofKey (d))]] w fun e w' => e = .returned (.agg #[.float .f64 (ofKey (PI)), .float .f64 (ofKey (-PI))]) ∧ Below w.heap.size w w' := by
  have he := eqiv
  have hP := PI_pos
  have q1 := ha.1; have q2 := ha.2; have q3 := hb.1; have q4 := hb.2; have q5 := hc.1; have q6 := hc.2; have q7 := hd.1; have q8 := hd.2
  go_enter Try.func34, Try.ntmps34
  go_wp2_with fail
  have A0_0 : At (World.alloc (World.alloc (World.alloc w (.cells #[.float .f64 (ofKey (a)), .float .f64 (ofKey (b))] 27)) (.cells #[.float .f64 (ofKey (c)), .float .f64 (ofKey (d))] 27)) (.cells #[.float .f64 (0), .float .f64 (0)] 27)) (w.heap.size) 0 (.float .f64 (ofKey (a))) := ⟨by simp [go_sem], by simp [go_sem]⟩
  have A0_1 : At (World.alloc (World.alloc (World.alloc w (.cells #[.float .f64 (ofKey (a)), .float .f64 (ofKey (b))] 27)) (.cells #[.float .f64 (ofKey (c)), .float .f64 (ofKey (d))] 27)) (.cells #[.float .f64 (0), .float .f64 (0)] 27)) (w.heap.size) 1 (.float .f64 (ofKey (b))) := ⟨by simp [go_sem], by simp [go_sem]⟩
  have A1_0 : At (World.alloc (World.alloc (World.alloc w (.cells #[.float .f64 (ofKey (a)), .float .f64 (ofKey (b))] 27)) (.cells #[.float .f64 (ofKey (c)), .float .f64 (ofKey (d))] 27)) (.cells #[.float .f64 (0), .float .f64 (0)] 27)) (w.heap.size + 1) 0 (.float .f64 (ofKey (c))) := ⟨by simp [go_sem], by simp [go_sem]⟩
  have A1_1 : At (World.alloc (World.alloc (World.alloc w (.cells #[.float .f64 (ofKey (a)), .float .f64 (ofKey (b))] 27)) (.cells #[.float .f64 (ofKey (c)), .float .f64 (ofKey (d))] 27)) (.cells #[.float .f64 (0), .float .f64 (0)] 27)) (w.heap.size + 1) 1 (.float .f64 (ofKey (d))) := ⟨by simp [go_sem], by simp [go_sem]⟩
  have A2_0 : At (World.alloc (World.alloc (World.alloc w (.cells #[.float .f64 (ofKey (a)), .float .f64 (ofKey (b))] 27)) (.cells #[.float .f64 (ofKey (c)), .float .f64 (ofKey (d))] 27)) (.cells #[.float .f64 (0), .float .f64 (0)] 27)) (w.heap.size + 1 + 1) 0 (.float .f64 (0)) := ⟨by simp [go_sem], by simp [go_sem]⟩
  have A2_1 : At (World.alloc (World.alloc (World.alloc w (.cells #[.float .f64 (ofKey (a)), .float .f64 (ofKey (b))] 27)) (.cells #[.float .f64 (ofKey (c)), .float .f64 (ofKey (d))] 27)) (.cells #[.float .f64 (0), .float .f64 (0)] 27)) (w.heap.size + 1 + 1) 1 (.float .f64 (0)) := ⟨by simp [go_sem], by simp [go_sem]⟩
  have k0_0 := cell_regrown A0_0.1
  have k0_1 := cell_regrown A0_1.1
  have k1_0 := cell_regrown A1_0.1
  have k1_1 := cell_regrown A1_1.1
  have k2_0 := cell_regrown A2_0.1
  have k2_1 := cell_regrown A2_1.1
  refine wp_region_below (by kernel_rfl) (by kernel_rfl) ?_
  repeat (go_big_quiet_step ((go_at_call 48; exact Calls.regrown_of (ivlzero_any _))))
  refine wpQuiet_nil (fun w1 hbw1 => ?_)
  clear k0_0 k0_1 k1_0 k1_1 k2_0 k2_1
  replace A0_0 := At.below A0_0 hbw1
  replace A0_1 := At.below A0_1 hbw1
  replace A1_0 := At.below A1_0 hbw1
  replace A1_1 := At.below A1_1 hbw1
  replace A2_0 := At.below A2_0 hbw1
  replace A2_1 := At.below A2_1 hbw1
  have B := below_alloc (below_alloc (below_alloc (hbw1)))
  clear hbw1
  have F0_0 := A0_0.1; have G0_0 := A0_0.2
  have F0_1 := A0_1.1; have G0_1 := A0_1.2
  have F1_0 := A1_0.1; have G1_0 := A1_0.2
  have F1_1 := A1_1.1; have G1_1 := A1_1.2
  have F2_0 := A2_0.1; have G2_0 := A2_0.2
  have F2_1 := A2_1.1; have G2_1 := A2_1.2
  have Z0 := A0_0.lt
  have Z1 := A1_0.lt
  have Z2 := A2_0.lt
  go_wp2_with fail
  refine (ivlempty_any _).mono ?_
  rintro e w3 ⟨rfl, hbw3⟩
  clear F0_0 G0_0 F0_1 G0_1 F1_0 G1_0 F1_1 G1_1 F2_0 G2_0 F2_1 G2_1 Z0 Z1 Z2
  replace A0_0 := At.below (A0_0) hbw3
  replace A0_1 := At.below (A0_1) hbw3
  replace A1_0 := At.below (A1_0) hbw3
  replace A1_1 := At.below (A1_1) hbw3
  replace A2_0 := At.below (A2_0) hbw3
  replace A2_1 := At.below (A2_1) hbw3
  replace B := below_step B B.size (hbw3)
  clear hbw3
  have F0_0 := A0_0.1; have G0_0 := A0_0.2
  have F0_1 := A0_1.1; have G0_1 := A0_1.2
  have F1_0 := A1_0.1; have G1_0 := A1_0.2
  have F1_1 := A1_1.1; have G1_1 := A1_1.2
  have F2_0 := A2_0.1; have G2_0 := A2_0.2
  have F2_1 := A2_1.1; have G2_1 := A2_1.2
  have Z0 := A0_0.lt
  have Z1 := A1_0.lt
  have Z2 := A2_0.lt
  go_wp2_with fail
  clear F0_0 G0_0 F0_1 G0_1 F1_0 G1_0 F1_1 G1_1 F2_0 G2_0 F2_1 G2_1 Z0 Z1 Z2
  replace A0_0 := At.set_blk (b' := w.heap.size + 1 + 1) (f' := 0) A0_0 (by first | omega | (have := B.size; omega)) (.float .f64 (ofKey (PI)))
  replace A0_1 := At.set_blk (b' := w.heap.size + 1 + 1) (f' := 0) A0_1 (by first | omega | (have := B.size; omega)) (.float .f64 (ofKey (PI)))
  replace A1_0 := At.set_blk (b' := w.heap.size + 1 + 1) (f' := 0) A1_0 (by first | omega | (have := B.size; omega)) (.float .f64 (ofKey (PI)))
  replace A1_1 := At.set_blk (b' := w.heap.size + 1 + 1) (f' := 0) A1_1 (by first | omega | (have := B.size; omega)) (.float .f64 (ofKey (PI)))
  replace A2_0 := At.set_same A2_0 (.float .f64 (ofKey (PI)))
  replace A2_1 := At.set_off (f' := 0) A2_1 (by decide) (.float .f64 (ofKey (PI)))
  replace A0_0 := At.set_blk (b' := w.heap.size + 1 + 1) (f' := 1) A0_0 (by first | omega | (have := B.size; omega)) (.float .f64 (ofKey (-PI)))
  replace A0_1 := At.set_blk (b' := w.heap.size + 1 + 1) (f' := 1) A0_1 (by first | omega | (have := B.size; omega)) (.float .f64 (ofKey (-PI)))
  replace A1_0 := At.set_blk (b' := w.heap.size + 1 + 1) (f' := 1) A1_0 (by first | omega | (have := B.size; omega)) (.float .f64 (ofKey (-PI)))
  replace A1_1 := At.set_blk (b' := w.heap.size + 1 + 1) (f' := 1) A1_1 (by first | omega | (have := B.size; omega)) (.float .f64 (ofKey (-PI)))
  replace A2_0 := At.set_off (f' := 1) A2_0 (by decide) (.float .f64 (ofKey (-PI)))
  replace A2_1 := At.set_same A2_1 (.float .f64 (ofKey (-PI)))
  have B' : Below w.heap.size w (World.setCell (World.setCell w3 ⟨w.heap.size + 1 + 1, 0, none⟩ (.float .f64 (ofKey (PI)))) ⟨w.heap.size + 1 + 1, 1, none⟩ (.float .f64 (ofKey (-PI)))) := (Below.setCell (Below.setCell B (p := ⟨w.heap.size + 1 + 1, 0, none⟩) (by first | (show w.heap.size ≤ w.heap.size + 1 + 1; omega) | (have := B.size; show w.heap.size ≤ w.heap.size + 1 + 1; omega)) (.float .f64 (ofKey (PI)))) (p := ⟨w.heap.size + 1 + 1, 1, none⟩) (by first | (show w.heap.size ≤ w.heap.size + 1 + 1; omega) | (have := B.size; show w.heap.size ≤ w.heap.size + 1 + 1; omega)) (.float .f64 (ofKey (-PI))))
  clear B
  obtain ⟨wz, hwz⟩ : ∃ wz, wz = (World.setCell (World.setCell w3 ⟨w.heap.size + 1 + 1, 0, none⟩ (.float .f64 (ofKey (PI)))) ⟨w.heap.size + 1 + 1, 1, none⟩ (.float .f64 (ofKey (-PI)))) := ⟨_, rfl⟩
  rw [← hwz]
  replace A0_0 := At.of A0_0 hwz
  replace A0_1 := At.of A0_1 hwz
  replace A1_0 := At.of A1_0 hwz
  replace A1_1 := At.of A1_1 hwz
  replace A2_0 := At.of A2_0 hwz
  replace A2_1 := At.of A2_1 hwz
  have B := below_of B' hwz
  clear B' hwz
  have F0_0 := A0_0.1; have G0_0 := A0_0.2
  have F0_1 := A0_1.1; have G0_1 := A0_1.2
  have F1_0 := A1_0.1; have G1_0 := A1_0.2
  have F1_1 := A1_1.1; have G1_1 := A1_1.2
  have F2_0 := A2_0.1; have G2_0 := A2_0.2
  have F2_1 := A2_1.1; have G2_1 := A2_1.2
  have Z0 := A0_0.lt
  have Z1 := A1_0.lt
  have Z2 := A2_0.lt
  refine bodyPost_ret (v := .agg #[.float .f64 (ofKey (PI)), .float .f64 (ofKey (-PI))]) (by simp [results, Try.results34, go_sem, F2_0, F2_1]) rfl ⟨rfl, ?_⟩
  exact B

set_option maxHeartbeats 1000000 in
theorem div_2 (a b c d : Int) (ha : Rg a) (hb : Rg b) (hc : Rg c) (hd : Rg d) (hCD : (decide (c = 0) && decide (d = 0)) = false) (dA : decide (a = 0) = true) (dB : decide (b = 0) = true) (w : World) :
    Calls Try.prog 34 #[.agg #[.float .f64 (ofKey (a)), .float .f64 (ofKey (b))], .agg #[.float .f64 (ofKey (c)), .float .f64 (ofKey (d))]] w fun e w' => e = .returned (.agg #[.float .f64 (ofKey (0)), .float .f64 (ofKey (0))]) ∧ Below w.heap.size w w' := by
  have he := eqiv
  have hP := PI_pos
  have q1 := ha.1; have q2 := ha.2; have q3 := hb.1; have q4 := hb.2; have q5 := hc.1; have q6 := hc.2; have q7 := hd.1; have q8 := hd.2
  rw [← zero_ofKey]
  go_enter Try.func34, Try.ntmps34
  go_wp2_with fail
  have A0_0 : At (World.alloc (World.alloc (World.alloc w (.cells #[.float .f64 (ofKey (a)), .float .f64 (ofKey (b))] 27)) (.cells #[.float .f64 (ofKey (c)), .float .f64 (ofKey (d))] 27)) (.cells #[.float .f64 (0), .float .f64 (0)] 27)) (w.heap.size) 0 (.float .f64 (ofKey (a))) := ⟨by simp [go_sem], by simp [go_sem]⟩
  have A0_1 : At (World.alloc (World.alloc (World.alloc w (.cells #[.float .f64 (ofKey (a)), .float .f64 (ofKey (b))] 27)) (.cells #[.float .f64 (ofKey (c)), .float .f64 (ofKey (d))] 27)) (.cells #[.float .f64 (0), .float .f64 (0)] 27)) (w.heap.size) 1 (.float .f64 (ofKey (b))) := ⟨by simp [go_sem], by simp [go_sem]⟩
  have A1_0 : At (World.alloc (World.alloc (World.alloc w (.cells #[.float .f64 (ofKey (a)), .float .f64 (ofKey (b))] 27)) (.cells #[.float .f64 (ofKey (c)), .float .f64 (ofKey (d))] 27)) (.cells #[.float .f64 (0), .float .f64 (0)] 27)) (w.heap.size + 1) 0 (.float .f64 (ofKey (c))) := ⟨by simp [go_sem], by simp [go_sem]⟩
  have A1_1 : At (World.alloc (World.alloc (World.alloc w (.cells #[.float .f64 (ofKey (a)), .float .f64 (ofKey (b))] 27)) (.cells #[.float .f64 (ofKey (c)), .float .f64 (ofKey (d))] 27)) (.cells #[.float .f64 (0), .float .f64 (0)] 27)) (w.heap.size + 1) 1 (.float .f64 (ofKey (d))) := ⟨by simp [go_sem], by simp [go_sem]⟩
  have A2_0 : At (World.alloc (World.alloc (World.alloc w (.cells #[.float .f64 (ofKey (a)), .float .f64 (ofKey (b))] 27)) (.cells #[.float .f64 (ofKey (c)), .float .f64 (ofKey (d))] 27)) (.cells #[.float .f64 (0), .float .f64 (0)] 27)) (w.heap.size + 1 + 1) 0 (.float .f64 (0)) := ⟨by simp [go_sem], by simp [go_sem]⟩
  have A2_1 : At (World.alloc (World.alloc (World.alloc w (.cells #[.float .f64 (ofKey (a)), .float .f64 (ofKey (b))] 27)) (.cells #[.float .f64 (ofKey (c)), .float .f64 (ofKey (d))] 27)) (.cells #[.float .f64 (0), .float .f64 (0)] 27)) (w.heap.size + 1 + 1) 1 (.float .f64 (0)) := ⟨by simp [go_sem], by simp [go_sem]⟩
  have k0_0 := cell_regrown A0_0.1
  have k0_1 := cell_regrown A0_1.1
  have k1_0 := cell_regrown A1_0.1
  have k1_1 := cell_regrown A1_1.1
  have k2_0 := cell_regrown A2_0.1
  have k2_1 := cell_regrown A2_1.1
  refine wp_region_below (by kernel_rfl) (by kernel_rfl) ?_
  repeat (go_big_quiet_step ((go_at_call 48; exact Calls.regrown_of (ivlzero_any _))))
  refine wpQuiet_nil (fun w1 hbw1 => ?_)
  clear k0_0 k0_1 k1_0 k1_1 k2_0 k2_1
  replace A0_0 := At.below A0_0 hbw1
  replace A0_1 := At.below A0_1 hbw1
  replace A1_0 := At.below A1_0 hbw1
  replace A1_1 := At.below A1_1 hbw1
  replace A2_0 := At.below A2_0 hbw1
  replace A2_1 := At.below A2_1 hbw1
  have B := below_alloc (below_alloc (below_alloc (hbw1)))
  clear hbw1
  have F0_0 := A0_0.1; have G0_0 := A0_0.2
  have F0_1 := A0_1.1; have G0_1 := A0_1.2
  have F1_0 := A1_0.1; have G1_0 := A1_0.2
  have F1_1 := A1_1.1; have G1_1 := A1_1.2
  have F2_0 := A2_0.1; have G2_0 := A2_0.2
  have F2_1 := A2_1.1; have G2_1 := A2_1.2
  have Z0 := A0_0.lt
  have Z1 := A1_0.lt
  have Z2 := A2_0.lt
  go_wp2_with fail
  have k0_0 := cell_regrown A0_0.1
  have k0_1 := cell_regrown A0_1.1
  have k1_0 := cell_regrown A1_0.1
  have k1_1 := cell_regrown A1_1.1
  have k2_0 := cell_regrown A2_0.1
  have k2_1 := cell_regrown A2_1.1
  refine wp_region_below (by kernel_rfl) (by kernel_rfl) ?_
  repeat (go_big_quiet_step ((go_at_call 48; exact Calls.regrown_of (ivlzero_any _))))
  refine wpQuiet_nil (fun w2 hbw2 => ?_)
  clear k0_0 k0_1 k1_0 k1_1 k2_0 k2_1
  clear F0_0 G0_0 F0_1 G0_1 F1_0 G1_0 F1_1 G1_1 F2_0 G2_0 F2_1 G2_1 Z0 Z1 Z2
  replace A0_0 := At.below (A0_0) hbw2
  replace A0_1 := At.below (A0_1) hbw2
  replace A1_0 := At.below (A1_0) hbw2
  replace A1_1 := At.below (A1_1) hbw2
  replace A2_0 := At.below (A2_0) hbw2
  replace A2_1 := At.below (A2_1) hbw2
  replace B := below_step B B.size (hbw2)
  clear hbw2
  have F0_0 := A0_0.1; have G0_0 := A0_0.2
  have F0_1 := A0_1.1; have G0_1 := A0_1.2
  have F1_0 := A1_0.1; have G1_0 := A1_0.2
  have F1_1 := A1_1.1; have G1_1 := A1_1.2
  have F2_0 := A2_0.1; have G2_0 := A2_0.2
  have F2_1 := A2_1.1; have G2_1 := A2_1.2
  have Z0 := A0_0.lt
  have Z1 := A1_0.lt
  have Z2 := A2_0.lt
  go_wp2_with fail
  refine (ivlzero_any _).mono ?_
  rintro e w3 ⟨rfl, hbw3⟩
  clear F0_0 G0_0 F0_1 G0_1 F1_0 G1_0 F1_1 G1_1 F2_0 G2_0 F2_1 G2_1 Z0 Z1 Z2
  replace A0_0 := At.below (A0_0) hbw3
  replace A0_1 := At.below (A0_1) hbw3
  replace A1_0 := At.below (A1_0) hbw3
  replace A1_1 := At.below (A1_1) hbw3
  replace A2_0 := At.below (A2_0) hbw3
  replace A2_1 := At.below (A2_1) hbw3
  replace B := below_step B B.size (hbw3)
  clear hbw3
  have F0_0 := A0_0.1; have G0_0 := A0_0.2
  have F0_1 := A0_1.1; have G0_1 := A0_1.2
  have F1_0 := A1_0.1; have G1_0 := A1_0.2
  have F1_1 := A1_1.1; have G1_1 := A1_1.2
  have F2_0 := A2_0.1; have G2_0 := A2_0.2
  have F2_1 := A2_1.1; have G2_1 := A2_1.2
  have Z0 := A0_0.lt
  have Z1 := A1_0.lt
  have Z2 := A2_0.lt
  go_wp2_with fail
  clear F0_0 G0_0 F0_1 G0_1 F1_0 G1_0 F1_1 G1_1 F2_0 G2_0 F2_1 G2_1 Z0 Z1 Z2
  replace A0_0 := At.set_blk (b' := w.heap.size + 1 + 1) (f' := 0) A0_0 (by first | omega | (have := B.size; omega)) (.float .f64 (0))
  replace A0_1 := At.set_blk (b' := w.heap.size + 1 + 1) (f' := 0) A0_1 (by first | omega | (have := B.size; omega)) (.float .f64 (0))
  replace A1_0 := At.set_blk (b' := w.heap.size + 1 + 1) (f' := 0) A1_0 (by first | omega | (have := B.size; omega)) (.float .f64 (0))
  replace A1_1 := At.set_blk (b' := w.heap.size + 1 + 1) (f' := 0) A1_1 (by first | omega | (have := B.size; omega)) (.float .f64 (0))
  replace A2_0 := At.set_same A2_0 (.float .f64 (0))
  replace A2_1 := At.set_off (f' := 0) A2_1 (by decide) (.float .f64 (0))
  replace A0_0 := At.set_blk (b' := w.heap.size + 1 + 1) (f' := 1) A0_0 (by first | omega | (have := B.size; omega)) (.float .f64 (0))
  replace A0_1 := At.set_blk (b' := w.heap.size + 1 + 1) (f' := 1) A0_1 (by first | omega | (have := B.size; omega)) (.float .f64 (0))
  replace A1_0 := At.set_blk (b' := w.heap.size + 1 + 1) (f' := 1) A1_0 (by first | omega | (have := B.size; omega)) (.float .f64 (0))
  replace A1_1 := At.set_blk (b' := w.heap.size + 1 + 1) (f' := 1) A1_1 (by first | omega | (have := B.size; omega)) (.float .f64 (0))
  replace A2_0 := At.set_off (f' := 1) A2_0 (by decide) (.float .f64 (0))
  replace A2_1 := At.set_same A2_1 (.float .f64 (0))
  have B' : Below w.heap.size w (World.setCell (World.setCell w3 ⟨w.heap.size + 1 + 1, 0, none⟩ (.float .f64 (0))) ⟨w.heap.size + 1 + 1, 1, none⟩ (.float .f64 (0))) := (Below.setCell (Below.setCell B (p := ⟨w.heap.size + 1 + 1, 0, none⟩) (by first | (show w.heap.size ≤ w.heap.size + 1 + 1; omega) | (have := B.size; show w.heap.size ≤ w.heap.size + 1 + 1; omega)) (.float .f64 (0))) (p := ⟨w.heap.size + 1 + 1, 1, none⟩) (by first | (show w.heap.size ≤ w.heap.size + 1 + 1; omega) | (have := B.size; show w.heap.size ≤ w.heap.size + 1 + 1; omega)) (.float .f64 (0)))
  clear B
  obtain ⟨wz, hwz⟩ : ∃ wz, wz = (World.setCell (World.setCell w3 ⟨w.heap.size + 1 + 1, 0, none⟩ (.float .f64 (0))) ⟨w.heap.size + 1 + 1, 1, none⟩ (.float .f64 (0))) := ⟨_, rfl⟩
  rw [← hwz]
  replace A0_0 := At.of A0_0 hwz
  replace A0_1 := At.of A0_1 hwz
  replace A1_0 := At.of A1_0 hwz
  replace A1_1 := At.of A1_1 hwz
  replace A2_0 := At.of A2_0 hwz
  replace A2_1 := At.of A2_1 hwz
  have B := below_of B' hwz
  clear B' hwz
  have F0_0 := A0_0.1; have G0_0 := A0_0.2
  have F0_1 := A0_1.1; have G0_1 := A0_1.2
  have F1_0 := A1_0.1; have G1_0 := A1_0.2
  have F1_1 := A1_1.1; have G1_1 := A1_1.2
  have F2_0 := A2_0.1; have G2_0 := A2_0.2
  have F2_1 := A2_1.1; have G2_1 := A2_1.2
  have Z0 := A0_0.lt
  have Z1 := A1_0.lt
  have Z2 := A2_0.lt
  refine bodyPost_ret (v := .agg #[.float .f64 (0), .float .f64 (0)]) (by simp [results, Try.results34, go_sem, F2_0, F2_1]) rfl ⟨rfl, ?_⟩
  exact B

set_option maxHeartbeats 1000000 in
theorem div_3 (a b c d : Int) (ha : Rg a) (hb : Rg b) (hc : Rg c) (hd : Rg d) (hCD : (decide (c = 0) && decide (d = 0)) = false) (hAB : (decide (a = 0) && decide (b = 0)) = false) (h2 : c < 0) (h3 : 0 < d) (w : World) :
    Calls Try.prog 34 #[.agg #[.float .f64 (ofKey (a)), .float .f64 (ofKey (b))], .agg #[.float .f64 (ofKey (c)), .float .f64 (ofKey (d))]] w fun e w' => e = .returned (.agg #[.float .f64 (ofKey (-PI)), .float .f64 (ofKey (PI))]) ∧ Below w.heap.size w w' := by
  have he := eqiv
  have hP := PI_pos
  have q1 := ha.1; have q2 := ha.2; have q3 := hb.1; have q4 := hb.2; have q5 := hc.1; have q6 := hc.2; have q7 := hd.1; have q8 := hd.2
  go_enter Try.func34, Try.ntmps34
  go_wp2_with fail
  have A0_0 : At (World.alloc (World.alloc (World.alloc w (.cells #[.float .f64 (ofKey (a)), .float .f64 (ofKey (b))] 27)) (.cells #[.float .f64 (ofKey (c)), .float .f64 (ofKey (d))] 27)) (.cells #[.float .f64 (0), .float .f64 (0)] 27)) (w.heap.size) 0 (.float .f64 (ofKey (a))) := ⟨by simp [go_sem], by simp [go_sem]⟩
  have A0_1 : At (World.alloc (World.alloc (World.alloc w (.cells #[.float .f64 (ofKey (a)), .float .f64 (ofKey (b))] 27)) (.cells #[.float .f64 (ofKey (c)), .float .f64 (ofKey (d))] 27)) (.cells #[.float .f64 (0), .float .f64 (0)] 27)) (w.heap.size) 1 (.float .f64 (ofKey (b))) := ⟨by simp [go_sem], by simp [go_sem]⟩
  have A1_0 : At (World.alloc (World.alloc (World.alloc w (.cells #[.float .f64 (ofKey (a)), .float .f64 (ofKey (b))] 27)) (.cells #[.float .f64 (ofKey (c)), .float .f64 (ofKey (d))] 27)) (.cells #[.float .f64 (0), .float .f64 (0)] 27)) (w.heap.size + 1) 0 (.float .f64 (ofKey (c))) := ⟨by simp [go_sem], by simp [go_sem]⟩
  have A1_1 : At (World.alloc (World.alloc (World.alloc w (.cells #[.float .f64 (ofKey (a)), .float .f64 (ofKey (b))] 27)) (.cells #[.float .f64 (ofKey (c)), .float .f64 (ofKey (d))] 27)) (.cells #[.float .f64 (0), .float .f64 (0)] 27)) (w.heap.size + 1) 1 (.float .f64 (ofKey (d))) := ⟨by simp [go_sem], by simp [go_sem]⟩
  have A2_0 : At (World.alloc (World.alloc (World.alloc w (.cells #[.float .f64 (ofKey (a)), .float .f64 (ofKey (b))] 27)) (.cells #[.float .f64 (ofKey (c)), .float .f64 (ofKey (d))] 27)) (.cells #[.float .f64 (0), .float .f64 (0)] 27)) (w.heap.size + 1 + 1) 0 (.float .f64 (0)) := ⟨by simp [go_sem], by simp [go_sem]⟩
  have A2_1 : At (World.alloc (World.alloc (World.alloc w (.cells #[.float .f64 (ofKey (a)), .float .f64 (ofKey (b))] 27)) (.cells #[.float .f64 (ofKey (c)), .float .f64 (ofKey (d))] 27)) (.cells #[.float .f64 (0), .float .f64 (0)] 27)) (w.heap.size + 1 + 1) 1 (.float .f64 (0)) := ⟨by simp [go_sem], by simp [go_sem]⟩
  have k0_0 := cell_regrown A0_0.1
  have k0_1 := cell_regrown A0_1.1
  have k1_0 := cell_regrown A1_0.1
  have k1_1 := cell_regrown A1_1.1
  have k2_0 := cell_regrown A2_0.1
  have k2_1 := cell_regrown A2_1.1
  refine wp_region_below (by kernel_rfl) (by kernel_rfl) ?_
  repeat (go_big_quiet_step ((go_at_call 48; exact Calls.regrown_of (ivlzero_any _))))
  refine wpQuiet_nil (fun w1 hbw1 => ?_)
  clear k0_0 k0_1 k1_0 k1_1 k2_0 k2_1
  replace A0_0 := At.below A0_0 hbw1
  replace A0_1 := At.below A0_1 hbw1
  replace A1_0 := At.below A1_0 hbw1
  replace A1_1 := At.below A1_1 hbw1
  replace A2_0 := At.below A2_0 hbw1
  replace A2_1 := At.below A2_1 hbw1
  have B := below_alloc (below_alloc (below_alloc (hbw1)))
  clear hbw1
  have F0_0 := A0_0.1; have G0_0 := A0_0.2
  have F0_1 := A0_1.1; have G0_1 := A0_1.2
  have F1_0 := A1_0.1; have G1_0 := A1_0.2
  have F1_1 := A1_1.1; have G1_1 := A1_1.2
  have F2_0 := A2_0.1; have G2_0 := A2_0.2
  have F2_1 := A2_1.1; have G2_1 := A2_1.2
  have Z0 := A0_0.lt
  have Z1 := A1_0.lt
  have Z2 := A2_0.lt
  go_wp2_with fail
  have k0_0 := cell_regrown A0_0.1
  have k0_1 := cell_regrown A0_1.1
  have k1_0 := cell_regrown A1_0.1
  have k1_1 := cell_regrown A1_1.1
  have k2_0 := cell_regrown A2_0.1
  have k2_1 := cell_regrown A2_1.1
  refine wp_region_below (by kernel_rfl) (by kernel_rfl) ?_
  repeat (go_big_quiet_step ((go_at_call 48; exact Calls.regrown_of (ivlzero_any _))))
  refine wpQuiet_nil (fun w2 hbw2 => ?_)
  clear k0_0 k0_1 k1_0 k1_1 k2_0 k2_1
  clear F0_0 G0_0 F0_1 G0_1 F1_0 G1_0 F1_1 G1_1 F2_0 G2_0 F2_1 G2_1 Z0 Z1 Z2
  replace A0_0 := At.below (A0_0) hbw2
  replace A0_1 := At.below (A0_1) hbw2
  replace A1_0 := At.below (A1_0) hbw2
  replace A1_1 := At.below (A1_1) hbw2
  replace A2_0 := At.below (A2_0) hbw2
  replace A2_1 := At.below (A2_1) hbw2
  replace B := below_step B B.size (hbw2)
  clear hbw2
  have F0_0 := A0_0.1; have G0_0 := A0_0.2
  have F0_1 := A0_1.1; have G0_1 := A0_1.2
  have F1_0 := A1_0.1; have G1_0 := A1_0.2
  have F1_1 := A1_1.1; have G1_1 := A1_1.2
  have F2_0 := A2_0.1; have G2_0 := A2_0.2
  have F2_1 := A2_1.1; have G2_1 := A2_1.2
  have Z0 := A0_0.lt
  have Z1 := A1_0.lt
  have Z2 := A2_0.lt
  go_wp2_with fail
  refine (ivlwhole_any _).mono ?_
  rintro e w3 ⟨rfl, hbw3⟩
  clear F0_0 G0_0 F0_1 G0_1 F1_0 G1_0 F1_1 G1_1 F2_0 G2_0 F2_1 G2_1 Z0 Z1 Z2
  replace A0_0 := At.below (A0_0) hbw3
  replace A0_1 := At.below (A0_1) hbw3
  replace A1_0 := At.below (A1_0) hbw3
  replace A1_1 := At.below (A1_1) hbw3
  replace A2_0 := At.below (A2_0) hbw3
  replace A2_1 := At.below (A2_1) hbw3
  replace B := below_step B B.size (hbw3)
  clear hbw3
  have F0_0 := A0_0.1; have G0_0 := A0_0.2
  have F0_1 := A0_1.1; have G0_1 := A0_1.2
  have F1_0 := A1_0.1; have G1_0 := A1_0.2
  have F1_1 := A1_1.1; have G1_1 := A1_1.2
  have F2_0 := A2_0.1; have G2_0 := A2_0.2
  have F2_1 := A2_1.1; have G2_1 := A2_1.2
  have Z0 := A0_0.lt
  have Z1 := A1_0.lt
  have Z2 := A2_0.lt
  go_wp2_with fail
  clear F0_0 G0_0 F0_1 G0_1 F1_0 G1_0 F1_1 G1_1 F2_0 G2_0 F2_1 G2_1 Z0 Z1 Z2
  replace A0_0 := At.set_blk (b' := w.heap.size + 1 + 1) (f' := 0) A0_0 (by first | omega | (have := B.size; omega)) (.float .f64 (ofKey (-PI)))
  replace A0_1 := At.set_blk (b' := w.heap.size + 1 + 1) (f' := 0) A0_1 (by first | omega | (have := B.size; omega)) (.float .f64 (ofKey (-PI)))
  replace A1_0 := At.set_blk (b' := w.heap.size + 1 + 1) (f' := 0) A1_0 (by first | omega | (have := B.size; omega)) (.float .f64 (ofKey (-PI)))
  replace A1_1 := At.set_blk (b' := w.heap.size + 1 + 1) (f' := 0) A1_1 (by first | omega | (have := B.size; omega)) (.float .f64 (ofKey (-PI)))
  replace A2_0 := At.set_same A2_0 (.float .f64 (ofKey (-PI)))
  replace A2_1 := At.set_off (f' := 0) A2_1 (by decide) (.float .f64 (ofKey (-PI)))
  replace A0_0 := At.set_blk (b' := w.heap.size + 1 + 1) (f' := 1) A0_0 (by first | omega | (have := B.size; omega)) (.float .f64 (ofKey (PI)))
  replace A0_1 := At.set_blk (b' := w.heap.size + 1 + 1) (f' := 1) A0_1 (by first | omega | (have := B.size; omega)) (.float .f64 (ofKey (PI)))
  replace A1_0 := At.set_blk (b' := w.heap.size + 1 + 1) (f' := 1) A1_0 (by first | omega | (have := B.size; omega)) (.float .f64 (ofKey (PI)))
  replace A1_1 := At.set_blk (b' := w.heap.size + 1 + 1) (f' := 1) A1_1 (by first | omega | (have := B.size; omega)) (.float .f64 (ofKey (PI)))
  replace A2_0 := At.set_off (f' := 1) A2_0 (by decide) (.float .f64 (ofKey (PI)))
  replace A2_1 := At.set_same A2_1 (.float .f64 (ofKey (PI)))
  have B' : Below w.heap.size w (World.setCell (World.setCell w3 ⟨w.heap.size + 1 + 1, 0, none⟩ (.float .f64 (ofKey (-PI)))) ⟨w.heap.size + 1 + 1, 1, none⟩ (.float .f64 (ofKey (PI)))) := (Below.setCell (Below.setCell B (p := ⟨w.heap.size + 1 + 1, 0, none⟩) (by first | (show w.heap.size ≤ w.heap.size + 1 + 1; omega) | (have := B.size; show w.heap.size ≤ w.heap.size + 1 + 1; omega)) (.float .f64 (ofKey (-PI)))) (p := ⟨w.heap.size + 1 + 1, 1, none⟩) (by first | (show w.heap.size ≤ w.heap.size + 1 + 1; omega) | (have := B.size; show w.heap.size ≤ w.heap.size + 1 + 1; omega)) (.float .f64 (ofKey (PI))))
  clear B
  obtain ⟨wz, hwz⟩ : ∃ wz, wz = (World.setCell (World.setCell w3 ⟨w.heap.size + 1 + 1, 0, none⟩ (.float .f64 (ofKey (-PI)))) ⟨w.heap.size + 1 + 1, 1, none⟩ (.float .f64 (ofKey (PI)))) := ⟨_, rfl⟩
  rw [← hwz]
  replace A0_0 := At.of A0_0 hwz
  replace A0_1 := At.of A0_1 hwz
  replace A1_0 := At.of A1_0 hwz
  replace A1_1 := At.of A1_1 hwz
  replace A2_0 := At.of A2_0 hwz
  replace A2_1 := At.of A2_1 hwz
  have B := below_of B' hwz
  clear B' hwz
  have F0_0 := A0_0.1; have G0_0 := A0_0.2
  have F0_1 := A0_1.1; have G0_1 := A0_1.2
  have F1_0 := A1_0.1; have G1_0 := A1_0.2
  have F1_1 := A1_1.1; have G1_1 := A1_1.2
  have F2_0 := A2_0.1; have G2_0 := A2_0.2
  have F2_1 := A2_1.1; have G2_1 := A2_1.2
  have Z0 := A0_0.lt
  have Z1 := A1_0.lt
  have Z2 := A2_0.lt
  refine bodyPost_ret (v := .agg #[.float .f64 (ofKey (-PI)), .float .f64 (ofKey (PI))]) (by simp [results, Try.results34, go_sem, F2_0, F2_1]) rfl ⟨rfl, ?_⟩
  exact B

set_option maxHeartbeats 1000000 in
theorem div_4 (a b c d : Int) (ha : Rg a) (hb : Rg b) (hc : Rg c) (hd : Rg d) (hCD : (decide (c = 0) && decide (d = 0)) = false) (hAB : (decide (a = 0) && decide (b = 0)) = false) (h1 : c < 0) (h2 : d ≤ 0) (w : World) :
    Calls Try.prog 34 #[.agg #[.float .f64 (ofKey (a)), .float .f64 (ofKey (b))], .agg #[.float .f64 (ofKey (c)), .float .f64 (ofKey (d))]] w fun e w' => e = .returned (.agg #[.float .f64 (ofKey (divPLo (-b) (-a) (-d) (-c))), .float .f64 (ofKey (divPHi (-b) (-a) (-d) (-c)))]) ∧ Below w.heap.size w w' := by
  have he := eqiv
  have hP := PI_pos
  have q1 := ha.1; have q2 := ha.2; have q3 := hb.1; have q4 := hb.2; have q5 := hc.1; have q6 := hc.2; have q7 := hd.1; have q8 := hd.2
  have NA := Lib.hid (fun w => ivlneg_any a b ha hb w)
  have NB := Lib.hid (fun w => ivlneg_any c d hc hd w)
  have DV := Lib.hid (fun w => div_pos (-b) (-a) (-d) (-c) (Rg_neg hb) (Rg_neg ha) (Rg_neg hd) (Rg_neg hc) (by omega) (by omega) w)
  generalize divPLo (-b) (-a) (-d) (-c) = x at *
  generalize divPHi (-b) (-a) (-d) (-c) = y at *
  go_enter Try.func34, Try.ntmps34
  go_wp2_with fail
  have A0_0 : At (World.alloc (World.alloc (World.alloc w (.cells #[.float .f64 (ofKey (a)), .float .f64 (ofKey (b))] 27)) (.cells #[.float .f64 (ofKey (c)), .float .f64 (ofKey (d))] 27)) (.cells #[.float .f64 (0), .float .f64 (0)] 27)) (w.heap.size) 0 (.float .f64 (ofKey (a))) := ⟨by simp [go_sem], by simp [go_sem]⟩
  have A0_1 : At (World.alloc (World.alloc (World.alloc w (.cells #[.float .f64 (ofKey (a)), .float .f64 (ofKey (b))] 27)) (.cells #[.float .f64 (ofKey (c)), .float .f64 (ofKey (d))] 27)) (.cells #[.float .f64 (0), .float .f64 (0)] 27)) (w.heap.size) 1 (.float .f64 (ofKey (b))) := ⟨by simp [go_sem], by simp [go_sem]⟩
  have A1_0 : At (World.alloc (World.alloc (World.alloc w (.cells #[.float .f64 (ofKey (a)), .float .f64 (ofKey (b))] 27)) (.cells #[.float .f64 (ofKey (c)), .float .f64 (ofKey (d))] 27)) (.cells #[.float .f64 (0), .float .f64 (0)] 27)) (w.heap.size + 1) 0 (.float .f64 (ofKey (c))) := ⟨by simp [go_sem], by simp [go_sem]⟩
  have A1_1 : At (World.alloc (World.alloc (World.alloc w (.cells #[.float .f64 (ofKey (a)), .float .f64 (ofKey (b))] 27)) (.cells #[.float .f64 (ofKey (c)), .float .f64 (ofKey (d))] 27)) (.cells #[.float .f64 (0), .float .f64 (0)] 27)) (w.heap.size + 1) 1 (.float .f64 (ofKey (d))) := ⟨by simp [go_sem], by simp [go_sem]⟩
  have A2_0 : At (World.alloc (World.alloc (World.alloc w (.cells #[.float .f64 (ofKey (a)), .float .f64 (ofKey (b))] 27)) (.cells #[.float .f64 (ofKey (c)), .float .f64 (ofKey (d))] 27)) (.cells #[.float .f64 (0), .float .f64 (0)] 27)) (w.heap.size + 1 + 1) 0 (.float .f64 (0)) := ⟨by simp [go_sem], by simp [go_sem]⟩
  have A2_1 : At (World.alloc (World.alloc (World.alloc w (.cells #[.float .f64 (ofKey (a)), .float .f64 (ofKey (b))] 27)) (.cells #[.float .f64 (ofKey (c)), .float .f64 (ofKey (d))] 27)) (.cells #[.float .f64 (0), .float .f64 (0)] 27)) (w.heap.size + 1 + 1) 1 (.float .f64 (0)) := ⟨by simp [go_sem], by simp [go_sem]⟩
  have k0_0 := cell_regrown A0_0.1
  have k0_1 := cell_regrown A0_1.1
  have k1_0 := cell_regrown A1_0.1
  have k1_1 := cell_regrown A1_1.1
  have k2_0 := cell_regrown A2_0.1
  have k2_1 := cell_regrown A2_1.1
  refine wp_region_below (by kernel_rfl) (by kernel_rfl) ?_
  repeat (go_big_quiet_step ((go_at_call 48; exact Calls.regrown_of (ivlzero_any _))))
  refine wpQuiet_nil (fun w1 hbw1 => ?_)
  clear k0_0 k0_1 k1_0 k1_1 k2_0 k2_1
  replace A0_0 := At.below A0_0 hbw1
  replace A0_1 := At.below A0_1 hbw1
  replace A1_0 := At.below A1_0 hbw1
  replace A1_1 := At.below A1_1 hbw1
  replace A2_0 := At.below A2_0 hbw1
  replace A2_1 := At.below A2_1 hbw1
  have B := below_alloc (below_alloc (below_alloc (hbw1)))
  clear hbw1
  have F0_0 := A0_0.1; have G0_0 := A0_0.2
  have F0_1 := A0_1.1; have G0_1 := A0_1.2
  have F1_0 := A1_0.1; have G1_0 := A1_0.2
  have F1_1 := A1_1.1; have G1_1 := A1_1.2
  have F2_0 := A2_0.1; have G2_0 := A2_0.2
  have F2_1 := A2_1.1; have G2_1 := A2_1.2
  have Z0 := A0_0.lt
  have Z1 := A1_0.lt
  have Z2 := A2_0.lt
  go_wp2_with fail
  have k0_0 := cell_regrown A0_0.1
  have k0_1 := cell_regrown A0_1.1
  have k1_0 := cell_regrown A1_0.1
  have k1_1 := cell_regrown A1_1.1
  have k2_0 := cell_regrown A2_0.1
  have k2_1 := cell_regrown A2_1.1
  refine wp_region_below (by kernel_rfl) (by kernel_rfl) ?_
  repeat (go_big_quiet_step ((go_at_call 48; exact Calls.regrown_of (ivlzero_any _))))
  refine wpQuiet_nil (fun w2 hbw2 => ?_)
  clear k0_0 k0_1 k1_0 k1_1 k2_0 k2_1
  clear F0_0 G0_0 F0_1 G0_1 F1_0 G1_0 F1_1 G1_1 F2_0 G2_0 F2_1 G2_1 Z0 Z1 Z2
  replace A0_0 := At.below (A0_0) hbw2
  replace A0_1 := At.below (A0_1) hbw2
  replace A1_0 := At.below (A1_0) hbw2
  replace A1_1 := At.below (A1_1) hbw2
  replace A2_0 := At.below (A2_0) hbw2
  replace A2_1 := At.below (A2_1) hbw2
  replace B := below_step B B.size (hbw2)
  clear hbw2
  have F0_0 := A0_0.1; have G0_0 := A0_0.2
  have F0_1 := A0_1.1; have G0_1 := A0_1.2
  have F1_0 := A1_0.1; have G1_0 := A1_0.2
  have F1_1 := A1_1.1; have G1_1 := A1_1.2
  have F2_0 := A2_0.1; have G2_0 := A2_0.2
  have F2_1 := A2_1.1; have G2_1 := A2_1.2
  have Z0 := A0_0.lt
  have Z1 := A1_0.lt
  have Z2 := A2_0.lt
  go_wp2_with fail
  have k0_0 := cell_regrown A0_0.1
  have k0_1 := cell_regrown A0_1.1
  have k1_0 := cell_regrown A1_0.1
  have k1_1 := cell_regrown A1_1.1
  have k2_0 := cell_regrown A2_0.1
  have k2_1 := cell_regrown A2_1.1
  refine wp_region_below_tail 5 (by kernel_rfl) (by kernel_rfl) ?_
  simp only [List.take_succ_cons, List.take_zero, List.drop_succ_cons, List.drop_zero]
  repeat (go_big_quiet_step ((first | (with_reducible exact Calls.regrown_of (NA.out _)) | (with_reducible exact Calls.regrown_of (NB.out _)) | (with_reducible exact Calls.regrown_of (DV.out _)))))
  refine wpQuiet_nil (fun w3 hbw3 => ?_)
  clear k0_0 k0_1 k1_0 k1_1 k2_0 k2_1
  clear F0_0 G0_0 F0_1 G0_1 F1_0 G1_0 F1_1 G1_1 F2_0 G2_0 F2_1 G2_1 Z0 Z1 Z2
  replace A0_0 := At.below (A0_0) hbw3
  replace A0_1 := At.below (A0_1) hbw3
  replace A1_0 := At.below (A1_0) hbw3
  replace A1_1 := At.below (A1_1) hbw3
  replace A2_0 := At.below (A2_0) hbw3
  replace A2_1 := At.below (A2_1) hbw3
  replace B := below_step B B.size (hbw3)
  clear hbw3
  have F0_0 := A0_0.1; have G0_0 := A0_0.2
  have F0_1 := A0_1.1; have G0_1 := A0_1.2
  have F1_0 := A1_0.1; have G1_0 := A1_0.2
  have F1_1 := A1_1.1; have G1_1 := A1_1.2
  have F2_0 := A2_0.1; have G2_0 := A2_0.2
  have F2_1 := A2_1.1; have G2_1 := A2_1.2
  have Z0 := A0_0.lt
  have Z1 := A1_0.lt
  have Z2 := A2_0.lt
  go_wp2_with fail
  clear F0_0 G0_0 F0_1 G0_1 F1_0 G1_0 F1_1 G1_1 F2_0 G2_0 F2_1 G2_1 Z0 Z1 Z2
  replace A0_0 := At.set_blk (b' := w.heap.size + 1 + 1) (f' := 0) A0_0 (by first | omega | (have := B.size; omega)) (.float .f64 (ofKey (x)))
  replace A0_1 := At.set_blk (b' := w.heap.size + 1 + 1) (f' := 0) A0_1 (by first | omega | (have := B.size; omega)) (.float .f64 (ofKey (x)))
  replace A1_0 := At.set_blk (b' := w.heap.size + 1 + 1) (f' := 0) A1_0 (by first | omega | (have := B.size; omega)) (.float .f64 (ofKey (x)))
  replace A1_1 := At.set_blk (b' := w.heap.size + 1 + 1) (f' := 0) A1_1 (by first | omega | (have := B.size; omega)) (.float .f64 (ofKey (x)))
  replace A2_0 := At.set_same A2_0 (.float .f64 (ofKey (x)))
  replace A2_1 := At.set_off (f' := 0) A2_1 (by decide) (.float .f64 (ofKey (x)))
  replace A0_0 := At.set_blk (b' := w.heap.size + 1 + 1) (f' := 1) A0_0 (by first | omega | (have := B.size; omega)) (.float .f64 (ofKey (y)))
  replace A0_1 := At.set_blk (b' := w.heap.size + 1 + 1) (f' := 1) A0_1 (by first | omega | (have := B.size; omega)) (.float .f64 (ofKey (y)))
  replace A1_0 := At.set_blk (b' := w.heap.size + 1 + 1) (f' := 1) A1_0 (by first | omega | (have := B.size; omega)) (.float .f64 (ofKey (y)))
  replace A1_1 := At.set_blk (b' := w.heap.size + 1 + 1) (f' := 1) A1_1 (by first | omega | (have := B.size; omega)) (.float .f64 (ofKey (y)))
  replace A2_0 := At.set_off (f' := 1) A2_0 (by decide) (.float .f64 (ofKey (y)))
  replace A2_1 := At.set_same A2_1 (.float .f64 (ofKey (y)))
  have B' : Below w.heap.size w (World.setCell (World.setCell w3 ⟨w.heap.size + 1 + 1, 0, none⟩ (.float .f64 (ofKey (x)))) ⟨w.heap.size + 1 + 1, 1, none⟩ (.float .f64 (ofKey (y)))) := (Below.setCell (Below.setCell B (p := ⟨w.heap.size + 1 + 1, 0, none⟩) (by first | (show w.heap.size ≤ w.heap.size + 1 + 1; omega) | (have := B.size; show w.heap.size ≤ w.heap.size + 1 + 1; omega)) (.float .f64 (ofKey (x)))) (p := ⟨w.heap.size + 1 + 1, 1, none⟩) (by first | (show w.heap.size ≤ w.heap.size + 1 + 1; omega) | (have := B.size; show w.heap.size ≤ w.heap.size + 1 + 1; omega)) (.float .f64 (ofKey (y))))
  clear B
  obtain ⟨wz, hwz⟩ : ∃ wz, wz = (World.setCell (World.setCell w3 ⟨w.heap.size + 1 + 1, 0, none⟩ (.float .f64 (ofKey (x)))) ⟨w.heap.size + 1 + 1, 1, none⟩ (.float .f64 (ofKey (y)))) := ⟨_, rfl⟩
  rw [← hwz]
  replace A0_0 := At.of A0_0 hwz
  replace A0_1 := At.of A0_1 hwz
  replace A1_0 := At.of A1_0 hwz
  replace A1_1 := At.of A1_1 hwz
  replace A2_0 := At.of A2_0 hwz
  replace A2_1 := At.of A2_1 hwz
  have B := below_of B' hwz
  clear B' hwz
  have F0_0 := A0_0.1; have G0_0 := A0_0.2
  have F0_1 := A0_1.1; have G0_1 := A0_1.2
  have F1_0 := A1_0.1; have G1_0 := A1_0.2
  have F1_1 := A1_1.1; have G1_1 := A1_1.2
  have F2_0 := A2_0.1; have G2_0 := A2_0.2
  have F2_1 := A2_1.1; have G2_1 := A2_1.2
  have Z0 := A0_0.lt
  have Z1 := A1_0.lt
  have Z2 := A2_0.lt
  refine bodyPost_ret (v := .agg #[.float .f64 (ofKey (x)), .float .f64 (ofKey (y))]) (by simp [results, Try.results34, go_sem, F2_0, F2_1]) rfl ⟨rfl, ?_⟩
  exact B

theorem ivldiv_any (a b c d : Int) (ha : Rg a) (hb : Rg b) (hc : Rg c) (hd : Rg d) (hcd : c ≤ d) (w : World) :
    Calls Try.prog 34 #[.agg #[.float .f64 (ofKey (a)), .float .f64 (ofKey (b))], .agg #[.float .f64 (ofKey (c)), .float .f64 (ofKey (d))]] w fun e w' => e = .returned (.agg #[.float .f64 (ofKey (divLo a b c d)), .float .f64 (ofKey (divHi a b c d))]) ∧ Below w.heap.size w w' := by
  unfold divLo divHi
  by_cases h1 : c = 0 ∧ d = 0
  · rw [if_pos h1, if_pos h1]
    exact div_1 a b c d ha hb hc hd (decide_eq_true h1.1) (decide_eq_true h1.2) w
  · rw [if_neg h1, if_neg h1]
    have hCD : (decide (c = 0) && decide (d = 0)) = false := by rw [← Bool.decide_and]; exact decide_eq_false h1
    by_cases h2 : a = 0 ∧ b = 0
    · rw [if_pos h2, if_pos h2]
      exact div_2 a b c d ha hb hc hd hCD (decide_eq_true h2.1) (decide_eq_true h2.2) w
    · rw [if_neg h2, if_neg h2]
      have hAB : (decide (a = 0) && decide (b = 0)) = false := by rw [← Bool.decide_and]; exact decide_eq_false h2
      by_cases h3 : c < 0 ∧ 0 < d
      · rw [if_pos h3, if_pos h3]
        exact div_3 a b c d ha hb hc hd hCD hAB h3.1 h3.2 w
      · rw [if_neg h3, if_neg h3]
        by_cases h4 : d ≤ 0
        · rw [if_pos h4, if_pos h4]
          exact div_4 a b c d ha hb hc hd hCD hAB (by omega) h4 w
        · rw [if_neg h4, if_neg h4]
          exact div_pos a b c d ha hb hc hd (by omega) (by omega) w

theorem find2_any (c d : Int) (hc : Rg c) (hd : Rg d) (hcd : c ≤ d) (w : World) :
    Calls Try.prog 33 #[.agg #[.float .f64 (ofKey (c)), .float .f64 (ofKey (d))]] w fun e w' => e = .returned (.agg #[.float .f64 (ofKey (divLo 4607182418800017408 4607182418800017408 c d)), .float .f64 (ofKey (divHi 4607182418800017408 4607182418800017408 c d))]) ∧ Below w.heap.size w w' := by
  have r1 : Rg 4607182418800017408 := ⟨by decide, by decide⟩
  have DV := Lib.hid (fun w => ivldiv_any 4607182418800017408 4607182418800017408 c d r1 r1 hc hd hcd w)
  generalize divLo 4607182418800017408 4607182418800017408 c d = x at *
  generalize divHi 4607182418800017408 4607182418800017408 c d = y at *
  have e1 : ofKey 4607182418800017408 = 4607182418800017408 := by decide
  rw [e1] at DV
  clear hcd
  go_enter Try.func33, Try.ntmps33
  go_wp2_with fail
  refine (DV.out _).mono ?_
  rintro e w1 ⟨rfl, hbw1⟩
  have A0_0 : At (World.alloc (World.alloc w (.cells #[.float .f64 (ofKey (c)), .float .f64 (ofKey (d))] 27)) (.cells #[.float .f64 (0), .float .f64 (0)] 27)) (w.heap.size) 0 (.float .f64 (ofKey (c))) := ⟨by simp [go_sem], by simp [go_sem]⟩
  have A0_1 : At (World.alloc (World.alloc w (.cells #[.float .f64 (ofKey (c)), .float .f64 (ofKey (d))] 27)) (.cells #[.float .f64 (0), .float .f64 (0)] 27)) (w.heap.size) 1 (.float .f64 (ofKey (d))) := ⟨by simp [go_sem], by simp [go_sem]⟩
  have A1_0 : At (World.alloc (World.alloc w (.cells #[.float .f64 (ofKey (c)), .float .f64 (ofKey (d))] 27)) (.cells #[.float .f64 (0), .float .f64 (0)] 27)) (w.heap.size + 1) 0 (.float .f64 (0)) := ⟨by simp [go_sem], by simp [go_sem]⟩
  have A1_1 : At (World.alloc (World.alloc w (.cells #[.float .f64 (ofKey (c)), .float .f64 (ofKey (d))] 27)) (.cells #[.float .f64 (0), .float .f64 (0)] 27)) (w.heap.size + 1) 1 (.float .f64 (0)) := ⟨by simp [go_sem], by simp [go_sem]⟩
  replace A0_0 := At.below (A0_0) hbw1
  replace A0_1 := At.below (A0_1) hbw1
  replace A1_0 := At.below (A1_0) hbw1
  replace A1_1 := At.below (A1_1) hbw1
  have B := below_alloc (below_alloc (hbw1))
  clear hbw1
  have F0_0 := A0_0.1; have G0_0 := A0_0.2
  have F0_1 := A0_1.1; have G0_1 := A0_1.2
  have F1_0 := A1_0.1; have G1_0 := A1_0.2
  have F1_1 := A1_1.1; have G1_1 := A1_1.2
  have Z0 := A0_0.lt
  have Z1 := A1_0.lt
  go_wp2_with fail
  clear F0_0 G0_0 F0_1 G0_1 F1_0 G1_0 F1_1 G1_1 Z0 Z1
  replace A0_0 := At.set_blk (b' := w.heap.size + 1) (f' := 0) A0_0 (by first | omega | (have := B.size; omega)) (.float .f64 (ofKey (x)))
  replace A0_1 := At.set_blk (b' := w.heap.size + 1) (f' := 0) A0_1 (by first | omega | (have := B.size; omega)) (.float .f64 (ofKey (x)))
  replace A1_0 := At.set_same A1_0 (.float .f64 (ofKey (x)))
  replace A1_1 := At.set_off (f' := 0) A1_1 (by decide) (.float .f64 (ofKey (x)))
  replace A0_0 := At.set_blk (b' := w.heap.size + 1) (f' := 1) A0_0 (by first | omega | (have := B.size; omega)) (.float .f64 (ofKey (y)))
  replace A0_1 := At.set_blk (b' := w.heap.size + 1) (f' := 1) A0_1 (by first | omega | (have := B.size; omega)) (.float .f64 (ofKey (y)))
  replace A1_0 := At.set_off (f' := 1) A1_0 (by decide) (.float .f64 (ofKey (y)))
  replace A1_1 := At.set_same A1_1 (.float .f64 (ofKey (y)))
  have B' : Below w.heap.size w (World.setCell (World.setCell w1 ⟨w.heap.size + 1, 0, none⟩ (.float .f64 (ofKey (x)))) ⟨w.heap.size + 1, 1, none⟩ (.float .f64 (ofKey (y)))) := (Below.setCell (Below.setCell B (p := ⟨w.heap.size + 1, 0, none⟩) (by first | (show w.heap.size ≤ w.heap.size + 1; omega) | (have := B.size; show w.heap.size ≤ w.heap.size + 1; omega)) (.float .f64 (ofKey (x)))) (p := ⟨w.heap.size + 1, 1, none⟩) (by first | (show w.heap.size ≤ w.heap.size + 1; omega) | (have := B.size; show w.heap.size ≤ w.heap.size + 1; omega)) (.float .f64 (ofKey (y))))
  clear B
  obtain ⟨wz, hwz⟩ : ∃ wz, wz = (World.setCell (World.setCell w1 ⟨w.heap.size + 1, 0, none⟩ (.float .f64 (ofKey (x)))) ⟨w.heap.size + 1, 1, none⟩ (.float .f64 (ofKey (y)))) := ⟨_, rfl⟩
  rw [← hwz]
  replace A0_0 := At.of A0_0 hwz
  replace A0_1 := At.of A0_1 hwz
  replace A1_0 := At.of A1_0 hwz
  replace A1_1 := At.of A1_1 hwz
  have B := below_of B' hwz
  clear B' hwz
  have F0_0 := A0_0.1; have G0_0 := A0_0.2
  have F0_1 := A0_1.1; have G0_1 := A0_1.2
  have F1_0 := A1_0.1; have G1_0 := A1_0.2
  have F1_1 := A1_1.1; have G1_1 := A1_1.2
  have Z0 := A0_0.lt
  have Z1 := A1_0.lt
  refine bodyPost_ret (v := .agg #[.float .f64 (ofKey (x)), .float .f64 (ofKey (y))]) (by simp [results, Try.results33, go_sem, F1_0, F1_1]) rfl ⟨rfl, ?_⟩
  exact B

end Go.Proofs.Yteephgpefhodnab
