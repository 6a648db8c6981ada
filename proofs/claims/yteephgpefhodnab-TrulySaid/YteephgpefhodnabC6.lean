/- Package ivl: Apply. -/
import Derived.Test.YteephgpefhodnabC5
import Derived.Test.YteephgpefhodnabA4
namespace Go.Proofs.Yteephgpefhodnab
open Go.RowKit Go.Sort Go.Fl
set_option linter.unusedSimpArgs false
set_option linter.unusedVariables false

set_option maxHeartbeats 1000000 in
theorem apply_one (o : Int) (a b c d : Nat) (ha : Wd a) (hb : Wd b) (hc : Wd c) (hd : Wd d) (f : FuncId) (x y : Int) (hent : Enters Try.prog f) (hf : ∀ w, Calls Try.prog 22 #[.int .i64 o] w fun e w' => e = .returned (rowOne f) ∧ Below w.heap.size w w') (rx : Rg x) (ry : Rg y) (hn : ¬ (tkLo a b = PI ∧ tkHi a b = -PI)) (hg : ∀ w, Calls Try.prog f #[.agg #[.float .f64 (ofKey (tkLo a b)), .float .f64 (ofKey (tkHi a b))]] w fun e w' => e = .returned (.agg #[.float .f64 (ofKey (x)), .float .f64 (ofKey (y))]) ∧ Below w.heap.size w w') (w : World) :
    Calls Try.prog 13 #[.int .i64 o, .agg #[.float .f64 (a), .float .f64 (b)], .agg #[.float .f64 (c), .float .f64 (d)]] w fun e w' => e = .returned (.agg #[.float .f64 (ofKey (tkLo (ofKey x) (ofKey y))), .float .f64 (ofKey (tkHi (ofKey x) (ofKey y)))]) ∧ Below w.heap.size w w' := by
  have vA := tk_iv a b
  have vC := tk_iv c d
  have rA := vA.1; have rB := vA.2.1; have rC := vC.1; have rD := vC.2.1
  have TA := Lib.hid (fun w => ivltake_any a b ha hb w)
  have TC := Lib.hid (fun w => ivltake_any c d hc hd w)
  have x1 := neq_one
  have x2 := neq_two
  have x3 := neq_one0
  have x4 := neq_two0
  have hent : ∀ (args : Array Value) (w : World), (callFunc f args).run Try.prog w = .ok (.enter f args) w := hent
  have HF := Lib.hid hf
  unfold rowOne at HF
  have TK := Lib.hid (fun w => ivltake_any (ofKey x) (ofKey y) (ofKey_lt rx) (ofKey_lt ry) w)
  have hNA := fun w => ivlno_any _ _ rA rB w
  rw [decide_eq_false hn] at hNA
  have NA := Lib.hid hNA
  have HG := Lib.hid hg
  clear hNA hn hg hf
  generalize tkLo (ofKey x) (ofKey y) = X at *
  generalize tkHi (ofKey x) (ofKey y) = Y at *
  generalize tkLo a b = A at *
  generalize tkHi a b = Bh at *
  generalize tkLo c d = C at *
  generalize tkHi c d = D at *
  clear vA vC
  go_enter Try.func13, Try.ntmps13
  go_wp2_with fail
  have A0_0 : At (World.alloc (World.alloc (World.alloc w (.cells #[.float .f64 (a), .float .f64 (b)] 27)) (.cells #[.float .f64 (c), .float .f64 (d)] 27)) (.cells #[.float .f64 (0), .float .f64 (0)] 27)) (w.heap.size) 0 (.float .f64 (a)) := ⟨by simp [go_sem], by simp [go_sem]⟩
  have A0_1 : At (World.alloc (World.alloc (World.alloc w (.cells #[.float .f64 (a), .float .f64 (b)] 27)) (.cells #[.float .f64 (c), .float .f64 (d)] 27)) (.cells #[.float .f64 (0), .float .f64 (0)] 27)) (w.heap.size) 1 (.float .f64 (b)) := ⟨by simp [go_sem], by simp [go_sem]⟩
  have A1_0 : At (World.alloc (World.alloc (World.alloc w (.cells #[.float .f64 (a), .float .f64 (b)] 27)) (.cells #[.float .f64 (c), .float .f64 (d)] 27)) (.cells #[.float .f64 (0), .float .f64 (0)] 27)) (w.heap.size + 1) 0 (.float .f64 (c)) := ⟨by simp [go_sem], by simp [go_sem]⟩
  have A1_1 : At (World.alloc (World.alloc (World.alloc w (.cells #[.float .f64 (a), .float .f64 (b)] 27)) (.cells #[.float .f64 (c), .float .f64 (d)] 27)) (.cells #[.float .f64 (0), .float .f64 (0)] 27)) (w.heap.size + 1) 1 (.float .f64 (d)) := ⟨by simp [go_sem], by simp [go_sem]⟩
  have A2_0 : At (World.alloc (World.alloc (World.alloc w (.cells #[.float .f64 (a), .float .f64 (b)] 27)) (.cells #[.float .f64 (c), .float .f64 (d)] 27)) (.cells #[.float .f64 (0), .float .f64 (0)] 27)) (w.heap.size + 1 + 1) 0 (.float .f64 (0)) := ⟨by simp [go_sem], by simp [go_sem]⟩
  have A2_1 : At (World.alloc (World.alloc (World.alloc w (.cells #[.float .f64 (a), .float .f64 (b)] 27)) (.cells #[.float .f64 (c), .float .f64 (d)] 27)) (.cells #[.float .f64 (0), .float .f64 (0)] 27)) (w.heap.size + 1 + 1) 1 (.float .f64 (0)) := ⟨by simp [go_sem], by simp [go_sem]⟩
  have k0_0 := cell_regrown A0_0.1
  have k0_1 := cell_regrown A0_1.1
  have k1_0 := cell_regrown A1_0.1
  have k1_1 := cell_regrown A1_1.1
  have k2_0 := cell_regrown A2_0.1
  have k2_1 := cell_regrown A2_1.1
  refine wp_region_below_tail 4 (by kernel_rfl) (by kernel_rfl) ?_
  simp only [List.take_succ_cons, List.take_zero, List.drop_succ_cons, List.drop_zero]
  repeat (go_big_quiet_step ((first | (with_reducible exact Calls.regrown_of (TA.out _)) | (with_reducible exact Calls.regrown_of (TC.out _)))))
  refine wpQuiet_nil (fun w1 hbw1 => ?_)
  clear k0_0 k0_1 k1_0 k1_1 k2_0 k2_1
  replace A0_0 := At.below A0_0 hbw1
  replace A0_1 := At.below A0_1 hbw1
  replace A1_0 := At.below A1_0 hbw1
  replace A1_1 := At.below A1_1 hbw1
  replace A2_0 := At.below A2_0 hbw1
  replace A2_1 := At.below A2_1 hbw1
  have B := below_alloc (below_alloc (below_alloc (hbw1)))
  clear hbw1
  have F0_0 := A0_0.1; have G0_0 := A0_0.2
  have F0_1 := A0_1.1; have G0_1 := A0_1.2
  have F1_0 := A1_0.1; have G1_0 := A1_0.2
  have F1_1 := A1_1.1; have G1_1 := A1_1.2
  have F2_0 := A2_0.1; have G2_0 := A2_0.2
  have F2_1 := A2_1.1; have G2_1 := A2_1.2
  have Z0 := A0_0.lt
  have Z1 := A1_0.lt
  have Z2 := A2_0.lt
  iterate 6 go_step
  clear F0_0 G0_0 F0_1 G0_1 F1_0 G1_0 F1_1 G1_1 F2_0 G2_0 F2_1 G2_1 Z0 Z1 Z2
  replace A0_0 := At.set_same A0_0 (.float .f64 (ofKey (A)))
  replace A0_1 := At.set_off (f' := 0) A0_1 (by decide) (.float .f64 (ofKey (A)))
  replace A1_0 := At.set_blk (b' := w.heap.size) (f' := 0) A1_0 (by first | omega | (have := B.size; omega)) (.float .f64 (ofKey (A)))
  replace A1_1 := At.set_blk (b' := w.heap.size) (f' := 0) A1_1 (by first | omega | (have := B.size; omega)) (.float .f64 (ofKey (A)))
  replace A2_0 := At.set_blk (b' := w.heap.size) (f' := 0) A2_0 (by first | omega | (have := B.size; omega)) (.float .f64 (ofKey (A)))
  replace A2_1 := At.set_blk (b' := w.heap.size) (f' := 0) A2_1 (by first | omega | (have := B.size; omega)) (.float .f64 (ofKey (A)))
  replace A0_0 := At.set_off (f' := 1) A0_0 (by decide) (.float .f64 (ofKey (Bh)))
  replace A0_1 := At.set_same A0_1 (.float .f64 (ofKey (Bh)))
  replace A1_0 := At.set_blk (b' := w.heap.size) (f' := 1) A1_0 (by first | omega | (have := B.size; omega)) (.float .f64 (ofKey (Bh)))
  replace A1_1 := At.set_blk (b' := w.heap.size) (f' := 1) A1_1 (by first | omega | (have := B.size; omega)) (.float .f64 (ofKey (Bh)))
  replace A2_0 := At.set_blk (b' := w.heap.size) (f' := 1) A2_0 (by first | omega | (have := B.size; omega)) (.float .f64 (ofKey (Bh)))
  replace A2_1 := At.set_blk (b' := w.heap.size) (f' := 1) A2_1 (by first | omega | (have := B.size; omega)) (.float .f64 (ofKey (Bh)))
  replace A0_0 := At.set_blk (b' := w.heap.size + 1) (f' := 0) A0_0 (by first | omega | (have := B.size; omega)) (.float .f64 (ofKey (C)))
  replace A0_1 := At.set_blk (b' := w.heap.size + 1) (f' := 0) A0_1 (by first | omega | (have := B.size; omega)) (.float .f64 (ofKey (C)))
  replace A1_0 := At.set_same A1_0 (.float .f64 (ofKey (C)))
  replace A1_1 := At.set_off (f' := 0) A1_1 (by decide) (.float .f64 (ofKey (C)))
  replace A2_0 := At.set_blk (b' := w.heap.size + 1) (f' := 0) A2_0 (by first | omega | (have := B.size; omega)) (.float .f64 (ofKey (C)))
  replace A2_1 := At.set_blk (b' := w.heap.size + 1) (f' := 0) A2_1 (by first | omega | (have := B.size; omega)) (.float .f64 (ofKey (C)))
  replace A0_0 := At.set_blk (b' := w.heap.size + 1) (f' := 1) A0_0 (by first | omega | (have := B.size; omega)) (.float .f64 (ofKey (D)))
  replace A0_1 := At.set_blk (b' := w.heap.size + 1) (f' := 1) A0_1 (by first | omega | (have := B.size; omega)) (.float .f64 (ofKey (D)))
  replace A1_0 := At.set_off (f' := 1) A1_0 (by decide) (.float .f64 (ofKey (D)))
  replace A1_1 := At.set_same A1_1 (.float .f64 (ofKey (D)))
  replace A2_0 := At.set_blk (b' := w.heap.size + 1) (f' := 1) A2_0 (by first | omega | (have := B.size; omega)) (.float .f64 (ofKey (D)))
  replace A2_1 := At.set_blk (b' := w.heap.size + 1) (f' := 1) A2_1 (by first | omega | (have := B.size; omega)) (.float .f64 (ofKey (D)))
  have B' : Below w.heap.size w (World.setCell (World.setCell (World.setCell (World.setCell w1 ⟨w.heap.size, 0, none⟩ (.float .f64 (ofKey (A)))) ⟨w.heap.size, 1, none⟩ (.float .f64 (ofKey (Bh)))) ⟨w.heap.size + 1, 0, none⟩ (.float .f64 (ofKey (C)))) ⟨w.heap.size + 1, 1, none⟩ (.float .f64 (ofKey (D)))) := (Below.setCell (Below.setCell (Below.setCell (Below.setCell B (p := ⟨w.heap.size, 0, none⟩) (by first | (show w.heap.size ≤ w.heap.size; omega) | (have := B.size; show w.heap.size ≤ w.heap.size; omega)) (.float .f64 (ofKey (A)))) (p := ⟨w.heap.size, 1, none⟩) (by first | (show w.heap.size ≤ w.heap.size; omega) | (have := B.size; show w.heap.size ≤ w.heap.size; omega)) (.float .f64 (ofKey (Bh)))) (p := ⟨w.heap.size + 1, 0, none⟩) (by first | (show w.heap.size ≤ w.heap.size + 1; omega) | (have := B.size; show w.heap.size ≤ w.heap.size + 1; omega)) (.float .f64 (ofKey (C)))) (p := ⟨w.heap.size + 1, 1, none⟩) (by first | (show w.heap.size ≤ w.heap.size + 1; omega) | (have := B.size; show w.heap.size ≤ w.heap.size + 1; omega)) (.float .f64 (ofKey (D))))
  clear B
  obtain ⟨w2, hw2⟩ : ∃ w2, w2 = (World.setCell (World.setCell (World.setCell (World.setCell w1 ⟨w.heap.size, 0, none⟩ (.float .f64 (ofKey (A)))) ⟨w.heap.size, 1, none⟩ (.float .f64 (ofKey (Bh)))) ⟨w.heap.size + 1, 0, none⟩ (.float .f64 (ofKey (C)))) ⟨w.heap.size + 1, 1, none⟩ (.float .f64 (ofKey (D)))) := ⟨_, rfl⟩
  rw [← hw2]
  replace A0_0 := At.of A0_0 hw2
  replace A0_1 := At.of A0_1 hw2
  replace A1_0 := At.of A1_0 hw2
  replace A1_1 := At.of A1_1 hw2
  replace A2_0 := At.of A2_0 hw2
  replace A2_1 := At.of A2_1 hw2
  have B := below_of B' hw2
  clear B' hw2
  have F0_0 := A0_0.1; have G0_0 := A0_0.2
  have F0_1 := A0_1.1; have G0_1 := A0_1.2
  have F1_0 := A1_0.1; have G1_0 := A1_0.2
  have F1_1 := A1_1.1; have G1_1 := A1_1.2
  have F2_0 := A2_0.1; have G2_0 := A2_0.2
  have F2_1 := A2_1.1; have G2_1 := A2_1.2
  have Z0 := A0_0.lt
  have Z1 := A1_0.lt
  have Z2 := A2_0.lt
  go_wp2_with fail
  refine (HF.out _).mono ?_
  rintro e w3 ⟨rfl, hbw3⟩
  clear F0_0 G0_0 F0_1 G0_1 F1_0 G1_0 F1_1 G1_1 F2_0 G2_0 F2_1 G2_1 Z0 Z1 Z2
  replace A0_0 := At.below (A0_0) hbw3
  replace A0_1 := At.below (A0_1) hbw3
  replace A1_0 := At.below (A1_0) hbw3
  replace A1_1 := At.below (A1_1) hbw3
  replace A2_0 := At.below (A2_0) hbw3
  replace A2_1 := At.below (A2_1) hbw3
  replace B := below_step B B.size (hbw3)
  clear hbw3
  have F0_0 := A0_0.1; have G0_0 := A0_0.2
  have F0_1 := A0_1.1; have G0_1 := A0_1.2
  have F1_0 := A1_0.1; have G1_0 := A1_0.2
  have F1_1 := A1_1.1; have G1_1 := A1_1.2
  have F2_0 := A2_0.1; have G2_0 := A2_0.2
  have F2_1 := A2_1.1; have G2_1 := A2_1.2
  have Z0 := A0_0.lt
  have Z1 := A1_0.lt
  have Z2 := A2_0.lt
  go_wp2_with fail
  clear F0_0 G0_0 F0_1 G0_1 F1_0 G1_0 F1_1 G1_1 F2_0 G2_0 F2_1 G2_1 Z0 Z1 Z2
  have n1 : w.heap.size < w3.heap.size := by simpa only [World.size_setCell] using At.lt A0_0
  have n2 : w.heap.size + 1 < w3.heap.size := by simpa only [World.size_setCell] using At.lt A1_0
  have n3 : w.heap.size + 1 + 1 < w3.heap.size := by simpa only [World.size_setCell] using At.lt A2_0
  replace A0_0 : At (World.alloc w3 (.cells #[.func (.func f) #[] #[], .nilFunc] 46)) _ _ _ := At.alloc (A0_0)
  replace A0_1 : At (World.alloc w3 (.cells #[.func (.func f) #[] #[], .nilFunc] 46)) _ _ _ := At.alloc (A0_1)
  replace A1_0 : At (World.alloc w3 (.cells #[.func (.func f) #[] #[], .nilFunc] 46)) _ _ _ := At.alloc (A1_0)
  replace A1_1 : At (World.alloc w3 (.cells #[.func (.func f) #[] #[], .nilFunc] 46)) _ _ _ := At.alloc (A1_1)
  replace A2_0 : At (World.alloc w3 (.cells #[.func (.func f) #[] #[], .nilFunc] 46)) _ _ _ := At.alloc (A2_0)
  replace A2_1 : At (World.alloc w3 (.cells #[.func (.func f) #[] #[], .nilFunc] 46)) _ _ _ := At.alloc (A2_1)
  have A3_0 : At (World.alloc w3 (.cells #[.func (.func f) #[] #[], .nilFunc] 46)) (w3.heap.size) 0 (.func (.func f) #[] #[]) := ⟨by simp [go_sem], by simp [go_sem]⟩
  have A3_1 : At (World.alloc w3 (.cells #[.func (.func f) #[] #[], .nilFunc] 46)) (w3.heap.size) 1 (.nilFunc) := ⟨by simp [go_sem], by simp [go_sem]⟩
  have B' : Below w.heap.size w (World.alloc w3 (.cells #[.func (.func f) #[] #[], .nilFunc] 46)) := (Below.alloc B (by first | exact B.size | (simp only [World.size_setCell, World.size_alloc]; have := B.size; omega)) _)
  clear B
  obtain ⟨w4, hw4⟩ : ∃ w4, w4 = (World.alloc w3 (.cells #[.func (.func f) #[] #[], .nilFunc] 46)) := ⟨_, rfl⟩
  rw [← hw4]
  replace A0_0 := At.of A0_0 hw4
  replace A0_1 := At.of A0_1 hw4
  replace A1_0 := At.of A1_0 hw4
  replace A1_1 := At.of A1_1 hw4
  replace A2_0 := At.of A2_0 hw4
  replace A2_1 := At.of A2_1 hw4
  replace A3_0 := At.of A3_0 hw4
  replace A3_1 := At.of A3_1 hw4
  have B := below_of B' hw4
  clear B' hw4
  have F0_0 := A0_0.1; have G0_0 := A0_0.2
  have F0_1 := A0_1.1; have G0_1 := A0_1.2
  have F1_0 := A1_0.1; have G1_0 := A1_0.2
  have F1_1 := A1_1.1; have G1_1 := A1_1.2
  have F2_0 := A2_0.1; have G2_0 := A2_0.2
  have F2_1 := A2_1.1; have G2_1 := A2_1.2
  have F3_0 := A3_0.1; have G3_0 := A3_0.2
  have F3_1 := A3_1.1; have G3_1 := A3_1.2
  have Z0 := A0_0.lt
  have Z1 := A1_0.lt
  have Z2 := A2_0.lt
  have Z3 := A3_0.lt
  refine (NA.out _).mono ?_
  rintro e w5 ⟨rfl, hbw5⟩
  clear F0_0 G0_0 F0_1 G0_1 F1_0 G1_0 F1_1 G1_1 F2_0 G2_0 F2_1 G2_1 F3_0 G3_0 F3_1 G3_1 Z0 Z1 Z2 Z3
  replace A0_0 := At.below (A0_0) hbw5
  replace A0_1 := At.below (A0_1) hbw5
  replace A1_0 := At.below (A1_0) hbw5
  replace A1_1 := At.below (A1_1) hbw5
  replace A2_0 := At.below (A2_0) hbw5
  replace A2_1 := At.below (A2_1) hbw5
  replace A3_0 := At.below (A3_0) hbw5
  replace A3_1 := At.below (A3_1) hbw5
  replace B := below_step B B.size (hbw5)
  clear hbw5
  have F0_0 := A0_0.1; have G0_0 := A0_0.2
  have F0_1 := A0_1.1; have G0_1 := A0_1.2
  have F1_0 := A1_0.1; have G1_0 := A1_0.2
  have F1_1 := A1_1.1; have G1_1 := A1_1.2
  have F2_0 := A2_0.1; have G2_0 := A2_0.2
  have F2_1 := A2_1.1; have G2_1 := A2_1.2
  have F3_0 := A3_0.1; have G3_0 := A3_0.2
  have F3_1 := A3_1.1; have G3_1 := A3_1.2
  have Z0 := A0_0.lt
  have Z1 := A1_0.lt
  have Z2 := A2_0.lt
  have Z3 := A3_0.lt
  go_wp2_with fail
  refine (HG.out _).mono ?_
  rintro e w6 ⟨rfl, hbw6⟩
  clear F0_0 G0_0 F0_1 G0_1 F1_0 G1_0 F1_1 G1_1 F2_0 G2_0 F2_1 G2_1 F3_0 G3_0 F3_1 G3_1 Z0 Z1 Z2 Z3
  replace A0_0 := At.below (A0_0) hbw6
  replace A0_1 := At.below (A0_1) hbw6
  replace A1_0 := At.below (A1_0) hbw6
  replace A1_1 := At.below (A1_1) hbw6
  replace A2_0 := At.below (A2_0) hbw6
  replace A2_1 := At.below (A2_1) hbw6
  replace A3_0 := At.below (A3_0) hbw6
  replace A3_1 := At.below (A3_1) hbw6
  replace B := below_step B B.size (hbw6)
  clear hbw6
  have F0_0 := A0_0.1; have G0_0 := A0_0.2
  have F0_1 := A0_1.1; have G0_1 := A0_1.2
  have F1_0 := A1_0.1; have G1_0 := A1_0.2
  have F1_1 := A1_1.1; have G1_1 := A1_1.2
  have F2_0 := A2_0.1; have G2_0 := A2_0.2
  have F2_1 := A2_1.1; have G2_1 := A2_1.2
  have F3_0 := A3_0.1; have G3_0 := A3_0.2
  have F3_1 := A3_1.1; have G3_1 := A3_1.2
  have Z0 := A0_0.lt
  have Z1 := A1_0.lt
  have Z2 := A2_0.lt
  have Z3 := A3_0.lt
  go_wp2_with fail
  refine (TK.out _).mono ?_
  rintro e w7 ⟨rfl, hbw7⟩
  clear F0_0 G0_0 F0_1 G0_1 F1_0 G1_0 F1_1 G1_1 F2_0 G2_0 F2_1 G2_1 F3_0 G3_0 F3_1 G3_1 Z0 Z1 Z2 Z3
  replace A0_0 := At.below (A0_0) hbw7
  replace A0_1 := At.below (A0_1) hbw7
  replace A1_0 := At.below (A1_0) hbw7
  replace A1_1 := At.below (A1_1) hbw7
  replace A2_0 := At.below (A2_0) hbw7
  replace A2_1 := At.below (A2_1) hbw7
  replace A3_0 := At.below (A3_0) hbw7
  replace A3_1 := At.below (A3_1) hbw7
  replace B := below_step B B.size (hbw7)
  clear hbw7
  have F0_0 := A0_0.1; have G0_0 := A0_0.2
  have F0_1 := A0_1.1; have G0_1 := A0_1.2
  have F1_0 := A1_0.1; have G1_0 := A1_0.2
  have F1_1 := A1_1.1; have G1_1 := A1_1.2
  have F2_0 := A2_0.1; have G2_0 := A2_0.2
  have F2_1 := A2_1.1; have G2_1 := A2_1.2
  have F3_0 := A3_0.1; have G3_0 := A3_0.2
  have F3_1 := A3_1.1; have G3_1 := A3_1.2
  have Z0 := A0_0.lt
  have Z1 := A1_0.lt
  have Z2 := A2_0.lt
  have Z3 := A3_0.lt
  go_wp2_with fail
  clear F0_0 G0_0 F0_1 G0_1 F1_0 G1_0 F1_1 G1_1 F2_0 G2_0 F2_1 G2_1 F3_0 G3_0 F3_1 G3_1 Z0 Z1 Z2 Z3
  replace A0_0 := At.set_blk (b' := w.heap.size + 1 + 1) (f' := 0) A0_0 (by first | omega | (have := B.size; omega)) (.float .f64 (ofKey (X)))
  replace A0_1 := At.set_blk (b' := w.heap.size + 1 + 1) (f' := 0) A0_1 (by first | omega | (have := B.size; omega)) (.float .f64 (ofKey (X)))
  replace A1_0 := At.set_blk (b' := w.heap.size + 1 + 1) (f' := 0) A1_0 (by first | omega | (have := B.size; omega)) (.float .f64 (ofKey (X)))
  replace A1_1 := At.set_blk (b' := w.heap.size + 1 + 1) (f' := 0) A1_1 (by first | omega | (have := B.size; omega)) (.float .f64 (ofKey (X)))
  replace A2_0 := At.set_same A2_0 (.float .f64 (ofKey (X)))
  replace A2_1 := At.set_off (f' := 0) A2_1 (by decide) (.float .f64 (ofKey (X)))
  replace A3_0 := At.set_blk (b' := w.heap.size + 1 + 1) (f' := 0) A3_0 (by first | omega | (have := B.size; omega)) (.float .f64 (ofKey (X)))
  replace A3_1 := At.set_blk (b' := w.heap.size + 1 + 1) (f' := 0) A3_1 (by first | omega | (have := B.size; omega)) (.float .f64 (ofKey (X)))
  replace A0_0 := At.set_blk (b' := w.heap.size + 1 + 1) (f' := 1) A0_0 (by first | omega | (have := B.size; omega)) (.float .f64 (ofKey (Y)))
  replace A0_1 := At.set_blk (b' := w.heap.size + 1 + 1) (f' := 1) A0_1 (by first | omega | (have := B.size; omega)) (.float .f64 (ofKey (Y)))
  replace A1_0 := At.set_blk (b' := w.heap.size + 1 + 1) (f' := 1) A1_0 (by first | omega | (have := B.size; omega)) (.float .f64 (ofKey (Y)))
  replace A1_1 := At.set_blk (b' := w.heap.size + 1 + 1) (f' := 1) A1_1 (by first | omega | (have := B.size; omega)) (.float .f64 (ofKey (Y)))
  replace A2_0 := At.set_off (f' := 1) A2_0 (by decide) (.float .f64 (ofKey (Y)))
  replace A2_1 := At.set_same A2_1 (.float .f64 (ofKey (Y)))
  replace A3_0 := At.set_blk (b' := w.heap.size + 1 + 1) (f' := 1) A3_0 (by first | omega | (have := B.size; omega)) (.float .f64 (ofKey (Y)))
  replace A3_1 := At.set_blk (b' := w.heap.size + 1 + 1) (f' := 1) A3_1 (by first | omega | (have := B.size; omega)) (.float .f64 (ofKey (Y)))
  have B' : Below w.heap.size w (World.setCell (World.setCell w7 ⟨w.heap.size + 1 + 1, 0, none⟩ (.float .f64 (ofKey (X)))) ⟨w.heap.size + 1 + 1, 1, none⟩ (.float .f64 (ofKey (Y)))) := (Below.setCell (Below.setCell B (p := ⟨w.heap.size + 1 + 1, 0, none⟩) (by first | (show w.heap.size ≤ w.heap.size + 1 + 1; omega) | (have := B.size; show w.heap.size ≤ w.heap.size + 1 + 1; omega)) (.float .f64 (ofKey (X)))) (p := ⟨w.heap.size + 1 + 1, 1, none⟩) (by first | (show w.heap.size ≤ w.heap.size + 1 + 1; omega) | (have := B.size; show w.heap.size ≤ w.heap.size + 1 + 1; omega)) (.float .f64 (ofKey (Y))))
  clear B
  obtain ⟨wz, hwz⟩ : ∃ wz, wz = (World.setCell (World.setCell w7 ⟨w.heap.size + 1 + 1, 0, none⟩ (.float .f64 (ofKey (X)))) ⟨w.heap.size + 1 + 1, 1, none⟩ (.float .f64 (ofKey (Y)))) := ⟨_, rfl⟩
  rw [← hwz]
  replace A0_0 := At.of A0_0 hwz
  replace A0_1 := At.of A0_1 hwz
  replace A1_0 := At.of A1_0 hwz
  replace A1_1 := At.of A1_1 hwz
  replace A2_0 := At.of A2_0 hwz
  replace A2_1 := At.of A2_1 hwz
  replace A3_0 := At.of A3_0 hwz
  replace A3_1 := At.of A3_1 hwz
  have B := below_of B' hwz
  clear B' hwz
  have F0_0 := A0_0.1; have G0_0 := A0_0.2
  have F0_1 := A0_1.1; have G0_1 := A0_1.2
  have F1_0 := A1_0.1; have G1_0 := A1_0.2
  have F1_1 := A1_1.1; have G1_1 := A1_1.2
  have F2_0 := A2_0.1; have G2_0 := A2_0.2
  have F2_1 := A2_1.1; have G2_1 := A2_1.2
  have F3_0 := A3_0.1; have G3_0 := A3_0.2
  have F3_1 := A3_1.1; have G3_1 := A3_1.2
  have Z0 := A0_0.lt
  have Z1 := A1_0.lt
  have Z2 := A2_0.lt
  have Z3 := A3_0.lt
  refine bodyPost_ret (v := .agg #[.float .f64 (ofKey (X)), .float .f64 (ofKey (Y))]) (by simp [results, Try.results13, go_sem, F2_0, F2_1]) rfl ⟨rfl, ?_⟩
  exact B

set_option maxHeartbeats 1000000 in
theorem apply_one_no (o : Int) (a b c d : Nat) (ha : Wd a) (hb : Wd b) (hc : Wd c) (hd : Wd d) (f : FuncId) (hent : Enters Try.prog f) (hf : ∀ w, Calls Try.prog 22 #[.int .i64 o] w fun e w' => e = .returned (rowOne f) ∧ Below w.heap.size w w') (hn : tkLo a b = PI ∧ tkHi a b = -PI) (w : World) :
    Calls Try.prog 13 #[.int .i64 o, .agg #[.float .f64 (a), .float .f64 (b)], .agg #[.float .f64 (c), .float .f64 (d)]] w fun e w' => e = .returned (.agg #[.float .f64 (ofKey (PI)), .float .f64 (ofKey (-PI))]) ∧ Below w.heap.size w w' := by
  have vA := tk_iv a b
  have vC := tk_iv c d
  have rA := vA.1; have rB := vA.2.1; have rC := vC.1; have rD := vC.2.1
  have TA := Lib.hid (fun w => ivltake_any a b ha hb w)
  have TC := Lib.hid (fun w => ivltake_any c d hc hd w)
  have x1 := neq_one
  have x2 := neq_two
  have x3 := neq_one0
  have x4 := neq_two0
  have hent : ∀ (args : Array Value) (w : World), (callFunc f args).run Try.prog w = .ok (.enter f args) w := hent
  have HF := Lib.hid hf
  unfold rowOne at HF
  have hNA := fun w => ivlno_any _ _ rA rB w
  rw [decide_eq_true hn] at hNA
  have NA := Lib.hid hNA
  clear hNA hn hf
  generalize tkLo a b = A at *
  generalize tkHi a b = Bh at *
  generalize tkLo c d = C at *
  generalize tkHi c d = D at *
  clear vA vC
  go_enter Try.func13, Try.ntmps13
  go_wp2_with fail
  have A0_0 : At (World.alloc (World.alloc (World.alloc w (.cells #[.float .f64 (a), .float .f64 (b)] 27)) (.cells #[.float .f64 (c), .float .f64 (d)] 27)) (.cells #[.float .f64 (0), .float .f64 (0)] 27)) (w.heap.size) 0 (.float .f64 (a)) := ⟨by simp [go_sem], by simp [go_sem]⟩
  have A0_1 : At (World.alloc (World.alloc (World.alloc w (.cells #[.float .f64 (a), .float .f64 (b)] 27)) (.cells #[.float .f64 (c), .float .f64 (d)] 27)) (.cells #[.float .f64 (0), .float .f64 (0)] 27)) (w.heap.size) 1 (.float .f64 (b)) := ⟨by simp [go_sem], by simp [go_sem]⟩
  have A1_0 : At (World.alloc (World.alloc (World.alloc w (.cells #[.float .f64 (a), .float .f64 (b)] 27)) (.cells #[.float .f64 (c), .float .f64 (d)] 27)) (.cells #[.float .f64 (0), .float .f64 (0)] 27)) (w.heap.size + 1) 0 (.float .f64 (c)) := ⟨by simp [go_sem], by simp [go_sem]⟩
  have A1_1 : At (World.alloc (World.alloc (World.alloc w (.cells #[.float .f64 (a), .float .f64 (b)] 27)) (.cells #[.float .f64 (c), .float .f64 (d)] 27)) (.cells #[.float .f64 (0), .float .f64 (0)] 27)) (w.heap.size + 1) 1 (.float .f64 (d)) := ⟨by simp [go_sem], by simp [go_sem]⟩
  have A2_0 : At (World.alloc (World.alloc (World.alloc w (.cells #[.float .f64 (a), .float .f64 (b)] 27)) (.cells #[.float .f64 (c), .float .f64 (d)] 27)) (.cells #[.float .f64 (0), .float .f64 (0)] 27)) (w.heap.size + 1 + 1) 0 (.float .f64 (0)) := ⟨by simp [go_sem], by simp [go_sem]⟩
  have A2_1 : At (World.alloc (World.alloc (World.alloc w (.cells #[.float .f64 (a), .float .f64 (b)] 27)) (.cells #[.float .f64 (c), .float .f64 (d)] 27)) (.cells #[.float .f64 (0), .float .f64 (0)] 27)) (w.heap.size + 1 + 1) 1 (.float .f64 (0)) := ⟨by simp [go_sem], by simp [go_sem]⟩
  have k0_0 := cell_regrown A0_0.1
  have k0_1 := cell_regrown A0_1.1
  have k1_0 := cell_regrown A1_0.1
  have k1_1 := cell_regrown A1_1.1
  have k2_0 := cell_regrown A2_0.1
  have k2_1 := cell_regrown A2_1.1
  refine wp_region_below_tail 4 (by kernel_rfl) (by kernel_rfl) ?_
  simp only [List.take_succ_cons, List.take_zero, List.drop_succ_cons, List.drop_zero]
  repeat (go_big_quiet_step ((first | (with_reducible exact Calls.regrown_of (TA.out _)) | (with_reducible exact Calls.regrown_of (TC.out _)))))
  refine wpQuiet_nil (fun w1 hbw1 => ?_)
  clear k0_0 k0_1 k1_0 k1_1 k2_0 k2_1
  replace A0_0 := At.below A0_0 hbw1
  replace A0_1 := At.below A0_1 hbw1
  replace A1_0 := At.below A1_0 hbw1
  replace A1_1 := At.below A1_1 hbw1
  replace A2_0 := At.below A2_0 hbw1
  replace A2_1 := At.below A2_1 hbw1
  have B := below_alloc (below_alloc (below_alloc (hbw1)))
  clear hbw1
  have F0_0 := A0_0.1; have G0_0 := A0_0.2
  have F0_1 := A0_1.1; have G0_1 := A0_1.2
  have F1_0 := A1_0.1; have G1_0 := A1_0.2
  have F1_1 := A1_1.1; have G1_1 := A1_1.2
  have F2_0 := A2_0.1; have G2_0 := A2_0.2
  have F2_1 := A2_1.1; have G2_1 := A2_1.2
  have Z0 := A0_0.lt
  have Z1 := A1_0.lt
  have Z2 := A2_0.lt
  iterate 6 go_step
  clear F0_0 G0_0 F0_1 G0_1 F1_0 G1_0 F1_1 G1_1 F2_0 G2_0 F2_1 G2_1 Z0 Z1 Z2
  replace A0_0 := At.set_same A0_0 (.float .f64 (ofKey (A)))
  replace A0_1 := At.set_off (f' := 0) A0_1 (by decide) (.float .f64 (ofKey (A)))
  replace A1_0 := At.set_blk (b' := w.heap.size) (f' := 0) A1_0 (by first | omega | (have := B.size; omega)) (.float .f64 (ofKey (A)))
  replace A1_1 := At.set_blk (b' := w.heap.size) (f' := 0) A1_1 (by first | omega | (have := B.size; omega)) (.float .f64 (ofKey (A)))
  replace A2_0 := At.set_blk (b' := w.heap.size) (f' := 0) A2_0 (by first | omega | (have := B.size; omega)) (.float .f64 (ofKey (A)))
  replace A2_1 := At.set_blk (b' := w.heap.size) (f' := 0) A2_1 (by first | omega | (have := B.size; omega)) (.float .f64 (ofKey (A)))
  replace A0_0 := At.set_off (f' := 1) A0_0 (by decide) (.float .f64 (ofKey (Bh)))
  replace A0_1 := At.set_same A0_1 (.float .f64 (ofKey (Bh)))
  replace A1_0 := At.set_blk (b' := w.heap.size) (f' := 1) A1_0 (by first | omega | (have := B.size; omega)) (.float .f64 (ofKey (Bh)))
  replace A1_1 := At.set_blk (b' := w.heap.size) (f' := 1) A1_1 (by first | omega | (have := B.size; omega)) (.float .f64 (ofKey (Bh)))
  replace A2_0 := At.set_blk (b' := w.heap.size) (f' := 1) A2_0 (by first | omega | (have := B.size; omega)) (.float .f64 (ofKey (Bh)))
  replace A2_1 := At.set_blk (b' := w.heap.size) (f' := 1) A2_1 (by first | omega | (have := B.size; omega)) (.float .f64 (ofKey (Bh)))
  replace A0_0 := At.set_blk (b' := w.heap.size + 1) (f' := 0) A0_0 (by first | omega | (have := B.size; omega)) (.float .f64 (ofKey (C)))
  replace A0_1 := At.set_blk (b' := w.heap.size + 1) (f' := 0) A0_1 (by first | omega | (have := B.size; omega)) (.float .f64 (ofKey (C)))
  replace A1_0 := At.set_same A1_0 (.float .f64 (ofKey (C)))
  replace A1_1 := At.set_off (f' := 0) A1_1 (by decide) (.float .f64 (ofKey (C)))
  replace A2_0 := At.set_blk (b' := w.heap.size + 1) (f' := 0) A2_0 (by first | omega | (have := B.size; omega)) (.float .f64 (ofKey (C)))
  replace A2_1 := At.set_blk (b' := w.heap.size + 1) (f' := 0) A2_1 (by first | omega | (have := B.size; omega)) (.float .f64 (ofKey (C)))
  replace A0_0 := At.set_blk (b' := w.heap.size + 1) (f' := 1) A0_0 (by first | omega | (have := B.size; omega)) (.float .f64 (ofKey (D)))
  replace A0_1 := At.set_blk (b' := w.heap.size + 1) (f' := 1) A0_1 (by first | omega | (have := B.size; omega)) (.float .f64 (ofKey (D)))
  replace A1_0 := At.set_off (f' := 1) A1_0 (by decide) (.float .f64 (ofKey (D)))
  replace A1_1 := At.set_same A1_1 (.float .f64 (ofKey (D)))
  replace A2_0 := At.set_blk (b' := w.heap.size + 1) (f' := 1) A2_0 (by first | omega | (have := B.size; omega)) (.float .f64 (ofKey (D)))
  replace A2_1 := At.set_blk (b' := w.heap.size + 1) (f' := 1) A2_1 (by first | omega | (have := B.size; omega)) (.float .f64 (ofKey (D)))
  have B' : Below w.heap.size w (World.setCell (World.setCell (World.setCell (World.setCell w1 ⟨w.heap.size, 0, none⟩ (.float .f64 (ofKey (A)))) ⟨w.heap.size, 1, none⟩ (.float .f64 (ofKey (Bh)))) ⟨w.heap.size + 1, 0, none⟩ (.float .f64 (ofKey (C)))) ⟨w.heap.size + 1, 1, none⟩ (.float .f64 (ofKey (D)))) := (Below.setCell (Below.setCell (Below.setCell (Below.setCell B (p := ⟨w.heap.size, 0, none⟩) (by first | (show w.heap.size ≤ w.heap.size; omega) | (have := B.size; show w.heap.size ≤ w.heap.size; omega)) (.float .f64 (ofKey (A)))) (p := ⟨w.heap.size, 1, none⟩) (by first | (show w.heap.size ≤ w.heap.size; omega) | (have := B.size; show w.heap.size ≤ w.heap.size; omega)) (.float .f64 (ofKey (Bh)))) (p := ⟨w.heap.size + 1, 0, none⟩) (by first | (show w.heap.size ≤ w.heap.size + 1; omega) | (have := B.size; show w.heap.size ≤ w.heap.size + 1; omega)) (.float .f64 (ofKey (C)))) (p := ⟨w.heap.size + 1, 1, none⟩) (by first | (show w.heap.size ≤ w.heap.size + 1; omega) | (have := B.size; show w.heap.size ≤ w.heap.size + 1; omega)) (.float .f64 (ofKey (D))))
  clear B
  obtain ⟨w2, hw2⟩ : ∃ w2, w2 = (World.setCell (World.setCell (World.setCell (World.setCell w1 ⟨w.heap.size, 0, none⟩ (.float .f64 (ofKey (A)))) ⟨w.heap.size, 1, none⟩ (.float .f64 (ofKey (Bh)))) ⟨w.heap.size + 1, 0, none⟩ (.float .f64 (ofKey (C)))) ⟨w.heap.size + 1, 1, none⟩ (.float .f64 (ofKey (D)))) := ⟨_, rfl⟩
  rw [← hw2]
  replace A0_0 := At.of A0_0 hw2
  replace A0_1 := At.of A0_1 hw2
  replace A1_0 := At.of A1_0 hw2
  replace A1_1 := At.of A1_1 hw2
  replace A2_0 := At.of A2_0 hw2
  replace A2_1 := At.of A2_1 hw2
  have B := below_of B' hw2
  clear B' hw2
  have F0_0 := A0_0.1; have G0_0 := A0_0.2
  have F0_1 := A0_1.1; have G0_1 := A0_1.2
  have F1_0 := A1_0.1; have G1_0 := A1_0.2
  have F1_1 := A1_1.1; have G1_1 := A1_1.2
  have F2_0 := A2_0.1; have G2_0 := A2_0.2
  have F2_1 := A2_1.1; have G2_1 := A2_1.2
  have Z0 := A0_0.lt
  have Z1 := A1_0.lt
  have Z2 := A2_0.lt
  go_wp2_with fail
  refine (HF.out _).mono ?_
  rintro e w3 ⟨rfl, hbw3⟩
  clear F0_0 G0_0 F0_1 G0_1 F1_0 G1_0 F1_1 G1_1 F2_0 G2_0 F2_1 G2_1 Z0 Z1 Z2
  replace A0_0 := At.below (A0_0) hbw3
  replace A0_1 := At.below (A0_1) hbw3
  replace A1_0 := At.below (A1_0) hbw3
  replace A1_1 := At.below (A1_1) hbw3
  replace A2_0 := At.below (A2_0) hbw3
  replace A2_1 := At.below (A2_1) hbw3
  replace B := below_step B B.size (hbw3)
  clear hbw3
  have F0_0 := A0_0.1; have G0_0 := A0_0.2
  have F0_1 := A0_1.1; have G0_1 := A0_1.2
  have F1_0 := A1_0.1; have G1_0 := A1_0.2
  have F1_1 := A1_1.1; have G1_1 := A1_1.2
  have F2_0 := A2_0.1; have G2_0 := A2_0.2
  have F2_1 := A2_1.1; have G2_1 := A2_1.2
  have Z0 := A0_0.lt
  have Z1 := A1_0.lt
  have Z2 := A2_0.lt
  go_wp2_with fail
  clear F0_0 G0_0 F0_1 G0_1 F1_0 G1_0 F1_1 G1_1 F2_0 G2_0 F2_1 G2_1 Z0 Z1 Z2
  have n1 : w.heap.size < w3.heap.size := by simpa only [World.size_setCell] using At.lt A0_0
  have n2 : w.heap.size + 1 < w3.heap.size := by simpa only [World.size_setCell] using At.lt A1_0
  have n3 : w.heap.size + 1 + 1 < w3.heap.size := by simpa only [World.size_setCell] using At.lt A2_0
  replace A0_0 : At (World.alloc w3 (.cells #[.func (.func f) #[] #[], .nilFunc] 46)) _ _ _ := At.alloc (A0_0)
  replace A0_1 : At (World.alloc w3 (.cells #[.func (.func f) #[] #[], .nilFunc] 46)) _ _ _ := At.alloc (A0_1)
  replace A1_0 : At (World.alloc w3 (.cells #[.func (.func f) #[] #[], .nilFunc] 46)) _ _ _ := At.alloc (A1_0)
  replace A1_1 : At (World.alloc w3 (.cells #[.func (.func f) #[] #[], .nilFunc] 46)) _ _ _ := At.alloc (A1_1)
  replace A2_0 : At (World.alloc w3 (.cells #[.func (.func f) #[] #[], .nilFunc] 46)) _ _ _ := At.alloc (A2_0)
  replace A2_1 : At (World.alloc w3 (.cells #[.func (.func f) #[] #[], .nilFunc] 46)) _ _ _ := At.alloc (A2_1)
  have A3_0 : At (World.alloc w3 (.cells #[.func (.func f) #[] #[], .nilFunc] 46)) (w3.heap.size) 0 (.func (.func f) #[] #[]) := ⟨by simp [go_sem], by simp [go_sem]⟩
  have A3_1 : At (World.alloc w3 (.cells #[.func (.func f) #[] #[], .nilFunc] 46)) (w3.heap.size) 1 (.nilFunc) := ⟨by simp [go_sem], by simp [go_sem]⟩
  have B' : Below w.heap.size w (World.alloc w3 (.cells #[.func (.func f) #[] #[], .nilFunc] 46)) := (Below.alloc B (by first | exact B.size | (simp only [World.size_setCell, World.size_alloc]; have := B.size; omega)) _)
  clear B
  obtain ⟨w4, hw4⟩ : ∃ w4, w4 = (World.alloc w3 (.cells #[.func (.func f) #[] #[], .nilFunc] 46)) := ⟨_, rfl⟩
  rw [← hw4]
  replace A0_0 := At.of A0_0 hw4
  replace A0_1 := At.of A0_1 hw4
  replace A1_0 := At.of A1_0 hw4
  replace A1_1 := At.of A1_1 hw4
  replace A2_0 := At.of A2_0 hw4
  replace A2_1 := At.of A2_1 hw4
  replace A3_0 := At.of A3_0 hw4
  replace A3_1 := At.of A3_1 hw4
  have B := below_of B' hw4
  clear B' hw4
  have F0_0 := A0_0.1; have G0_0 := A0_0.2
  have F0_1 := A0_1.1; have G0_1 := A0_1.2
  have F1_0 := A1_0.1; have G1_0 := A1_0.2
  have F1_1 := A1_1.1; have G1_1 := A1_1.2
  have F2_0 := A2_0.1; have G2_0 := A2_0.2
  have F2_1 := A2_1.1; have G2_1 := A2_1.2
  have F3_0 := A3_0.1; have G3_0 := A3_0.2
  have F3_1 := A3_1.1; have G3_1 := A3_1.2
  have Z0 := A0_0.lt
  have Z1 := A1_0.lt
  have Z2 := A2_0.lt
  have Z3 := A3_0.lt
  refine (NA.out _).mono ?_
  rintro e w5 ⟨rfl, hbw5⟩
  clear F0_0 G0_0 F0_1 G0_1 F1_0 G1_0 F1_1 G1_1 F2_0 G2_0 F2_1 G2_1 F3_0 G3_0 F3_1 G3_1 Z0 Z1 Z2 Z3
  replace A0_0 := At.below (A0_0) hbw5
  replace A0_1 := At.below (A0_1) hbw5
  replace A1_0 := At.below (A1_0) hbw5
  replace A1_1 := At.below (A1_1) hbw5
  replace A2_0 := At.below (A2_0) hbw5
  replace A2_1 := At.below (A2_1) hbw5
  replace A3_0 := At.below (A3_0) hbw5
  replace A3_1 := At.below (A3_1) hbw5
  replace B := below_step B B.size (hbw5)
  clear hbw5
  have F0_0 := A0_0.1; have G0_0 := A0_0.2
  have F0_1 := A0_1.1; have G0_1 := A0_1.2
  have F1_0 := A1_0.1; have G1_0 := A1_0.2
  have F1_1 := A1_1.1; have G1_1 := A1_1.2
  have F2_0 := A2_0.1; have G2_0 := A2_0.2
  have F2_1 := A2_1.1; have G2_1 := A2_1.2
  have F3_0 := A3_0.1; have G3_0 := A3_0.2
  have F3_1 := A3_1.1; have G3_1 := A3_1.2
  have Z0 := A0_0.lt
  have Z1 := A1_0.lt
  have Z2 := A2_0.lt
  have Z3 := A3_0.lt
  go_wp2_with fail
  refine (ivlempty_any _).mono ?_
  rintro e w6 ⟨rfl, hbw6⟩
  clear F0_0 G0_0 F0_1 G0_1 F1_0 G1_0 F1_1 G1_1 F2_0 G2_0 F2_1 G2_1 F3_0 G3_0 F3_1 G3_1 Z0 Z1 Z2 Z3
  replace A0_0 := At.below (A0_0) hbw6
  replace A0_1 := At.below (A0_1) hbw6
  replace A1_0 := At.below (A1_0) hbw6
  replace A1_1 := At.below (A1_1) hbw6
  replace A2_0 := At.below (A2_0) hbw6
  replace A2_1 := At.below (A2_1) hbw6
  replace A3_0 := At.below (A3_0) hbw6
  replace A3_1 := At.below (A3_1) hbw6
  replace B := below_step B B.size (hbw6)
  clear hbw6
  have F0_0 := A0_0.1; have G0_0 := A0_0.2
  have F0_1 := A0_1.1; have G0_1 := A0_1.2
  have F1_0 := A1_0.1; have G1_0 := A1_0.2
  have F1_1 := A1_1.1; have G1_1 := A1_1.2
  have F2_0 := A2_0.1; have G2_0 := A2_0.2
  have F2_1 := A2_1.1; have G2_1 := A2_1.2
  have F3_0 := A3_0.1; have G3_0 := A3_0.2
  have F3_1 := A3_1.1; have G3_1 := A3_1.2
  have Z0 := A0_0.lt
  have Z1 := A1_0.lt
  have Z2 := A2_0.lt
  have Z3 := A3_0.lt
  go_wp2_with fail
  clear F0_0 G0_0 F0_1 G0_1 F1_0 G1_0 F1_1 G1_1 F2_0 G2_0 F2_1 G2_1 F3_0 G3_0 F3_1 G3_1 Z0 Z1 Z2 Z3
  replace A0_0 := At.set_blk (b' := w.heap.size + 1 + 1) (f' := 0) A0_0 (by first | omega | (have := B.size; omega)) (.float .f64 (ofKey (PI)))
  replace A0_1 := At.set_blk (b' := w.heap.size + 1 + 1) (f' := 0) A0_1 (by first | omega | (have := B.size; omega)) (.float .f64 (ofKey (PI)))
  replace A1_0 := At.set_blk (b' := w.heap.size + 1 + 1) (f' := 0) A1_0 (by first | omega | (have := B.size; omega)) (.float .f64 (ofKey (PI)))
  replace A1_1 := At.set_blk (b' := w.heap.size + 1 + 1) (f' := 0) A1_1 (by first | omega | (have := B.size; omega)) (.float .f64 (ofKey (PI)))
  replace A2_0 := At.set_same A2_0 (.float .f64 (ofKey (PI)))
  replace A2_1 := At.set_off (f' := 0) A2_1 (by decide) (.float .f64 (ofKey (PI)))
  replace A3_0 := At.set_blk (b' := w.heap.size + 1 + 1) (f' := 0) A3_0 (by first | omega | (have := B.size; omega)) (.float .f64 (ofKey (PI)))
  replace A3_1 := At.set_blk (b' := w.heap.size + 1 + 1) (f' := 0) A3_1 (by first | omega | (have := B.size; omega)) (.float .f64 (ofKey (PI)))
  replace A0_0 := At.set_blk (b' := w.heap.size + 1 + 1) (f' := 1) A0_0 (by first | omega | (have := B.size; omega)) (.float .f64 (ofKey (-PI)))
  replace A0_1 := At.set_blk (b' := w.heap.size + 1 + 1) (f' := 1) A0_1 (by first | omega | (have := B.size; omega)) (.float .f64 (ofKey (-PI)))
  replace A1_0 := At.set_blk (b' := w.heap.size + 1 + 1) (f' := 1) A1_0 (by first | omega | (have := B.size; omega)) (.float .f64 (ofKey (-PI)))
  replace A1_1 := At.set_blk (b' := w.heap.size + 1 + 1) (f' := 1) A1_1 (by first | omega | (have := B.size; omega)) (.float .f64 (ofKey (-PI)))
  replace A2_0 := At.set_off (f' := 1) A2_0 (by decide) (.float .f64 (ofKey (-PI)))
  replace A2_1 := At.set_same A2_1 (.float .f64 (ofKey (-PI)))
  replace A3_0 := At.set_blk (b' := w.heap.size + 1 + 1) (f' := 1) A3_0 (by first | omega | (have := B.size; omega)) (.float .f64 (ofKey (-PI)))
  replace A3_1 := At.set_blk (b' := w.heap.size + 1 + 1) (f' := 1) A3_1 (by first | omega | (have := B.size; omega)) (.float .f64 (ofKey (-PI)))
  have B' : Below w.heap.size w (World.setCell (World.setCell w6 ⟨w.heap.size + 1 + 1, 0, none⟩ (.float .f64 (ofKey (PI)))) ⟨w.heap.size + 1 + 1, 1, none⟩ (.float .f64 (ofKey (-PI)))) := (Below.setCell (Below.setCell B (p := ⟨w.heap.size + 1 + 1, 0, none⟩) (by first | (show w.heap.size ≤ w.heap.size + 1 + 1; omega) | (have := B.size; show w.heap.size ≤ w.heap.size + 1 + 1; omega)) (.float .f64 (ofKey (PI)))) (p := ⟨w.heap.size + 1 + 1, 1, none⟩) (by first | (show w.heap.size ≤ w.heap.size + 1 + 1; omega) | (have := B.size; show w.heap.size ≤ w.heap.size + 1 + 1; omega)) (.float .f64 (ofKey (-PI))))
  clear B
  obtain ⟨wz, hwz⟩ : ∃ wz, wz = (World.setCell (World.setCell w6 ⟨w.heap.size + 1 + 1, 0, none⟩ (.float .f64 (ofKey (PI)))) ⟨w.heap.size + 1 + 1, 1, none⟩ (.float .f64 (ofKey (-PI)))) := ⟨_, rfl⟩
  rw [← hwz]
  replace A0_0 := At.of A0_0 hwz
  replace A0_1 := At.of A0_1 hwz
  replace A1_0 := At.of A1_0 hwz
  replace A1_1 := At.of A1_1 hwz
  replace A2_0 := At.of A2_0 hwz
  replace A2_1 := At.of A2_1 hwz
  replace A3_0 := At.of A3_0 hwz
  replace A3_1 := At.of A3_1 hwz
  have B := below_of B' hwz
  clear B' hwz
  have F0_0 := A0_0.1; have G0_0 := A0_0.2
  have F0_1 := A0_1.1; have G0_1 := A0_1.2
  have F1_0 := A1_0.1; have G1_0 := A1_0.2
  have F1_1 := A1_1.1; have G1_1 := A1_1.2
  have F2_0 := A2_0.1; have G2_0 := A2_0.2
  have F2_1 := A2_1.1; have G2_1 := A2_1.2
  have F3_0 := A3_0.1; have G3_0 := A3_0.2
  have F3_1 := A3_1.1; have G3_1 := A3_1.2
  have Z0 := A0_0.lt
  have Z1 := A1_0.lt
  have Z2 := A2_0.lt
  have Z3 := A3_0.lt
  refine bodyPost_ret (v := .agg #[.float .f64 (ofKey (PI)), .float .f64 (ofKey (-PI))]) (by simp [results, Try.results13, go_sem, F2_0, F2_1]) rfl ⟨rfl, ?_⟩
  exact B

set_option maxHeartbeats 1000000 in
theorem apply_two (o : Int) (a b c d : Nat) (ha : Wd a) (hb : Wd b) (hc : Wd c) (hd : Wd d) (f : FuncId) (x y : Int) (hent : Enters Try.prog f) (hf : ∀ w, Calls Try.prog 22 #[.int .i64 o] w fun e w' => e = .returned (rowTwo f) ∧ Below w.heap.size w w') (rx : Rg x) (ry : Rg y) (hn : ¬ (tkLo a b = PI ∧ tkHi a b = -PI)) (hn2 : ¬ (tkLo c d = PI ∧ tkHi c d = -PI)) (hg : ∀ w, Calls Try.prog f #[.agg #[.float .f64 (ofKey (tkLo a b)), .float .f64 (ofKey (tkHi a b))], .agg #[.float .f64 (ofKey (tkLo c d)), .float .f64 (ofKey (tkHi c d))]] w fun e w' => e = .returned (.agg #[.float .f64 (ofKey (x)), .float .f64 (ofKey (y))]) ∧ Below w.heap.size w w') (w : World) :
    Calls Try.prog 13 #[.int .i64 o, .agg #[.float .f64 (a), .float .f64 (b)], .agg #[.float .f64 (c), .float .f64 (d)]] w fun e w' => e = .returned (.agg #[.float .f64 (ofKey (tkLo (ofKey x) (ofKey y))), .float .f64 (ofKey (tkHi (ofKey x) (ofKey y)))]) ∧ Below w.heap.size w w' := by
  have vA := tk_iv a b
  have vC := tk_iv c d
  have rA := vA.1; have rB := vA.2.1; have rC := vC.1; have rD := vC.2.1
  have TA := Lib.hid (fun w => ivltake_any a b ha hb w)
  have TC := Lib.hid (fun w => ivltake_any c d hc hd w)
  have x1 := neq_one
  have x2 := neq_two
  have x3 := neq_one0
  have x4 := neq_two0
  have hent : ∀ (args : Array Value) (w : World), (callFunc f args).run Try.prog w = .ok (.enter f args) w := hent
  have HF := Lib.hid hf
  unfold rowTwo at HF
  have TK := Lib.hid (fun w => ivltake_any (ofKey x) (ofKey y) (ofKey_lt rx) (ofKey_lt ry) w)
  have hNA := fun w => ivlno_any _ _ rA rB w
  rw [decide_eq_false hn] at hNA
  have NA := Lib.hid hNA
  have hNC := fun w => ivlno_any _ _ rC rD w
  rw [decide_eq_false hn2] at hNC
  have NC := Lib.hid hNC
  have HG := Lib.hid hg
  clear hNA hn hNC hn2 hg hf
  generalize tkLo (ofKey x) (ofKey y) = X at *
  generalize tkHi (ofKey x) (ofKey y) = Y at *
  generalize tkLo a b = A at *
  generalize tkHi a b = Bh at *
  generalize tkLo c d = C at *
  generalize tkHi c d = D at *
  clear vA vC
  go_enter Try.func13, Try.ntmps13
  go_wp2_with fail
  have A0_0 : At (World.alloc (World.alloc (World.alloc w (.cells #[.float .f64 (a), .float .f64 (b)] 27)) (.cells #[.float .f64 (c), .float .f64 (d)] 27)) (.cells #[.float .f64 (0), .float .f64 (0)] 27)) (w.heap.size) 0 (.float .f64 (a)) := ⟨by simp [go_sem], by simp [go_sem]⟩
  have A0_1 : At (World.alloc (World.alloc (World.alloc w (.cells #[.float .f64 (a), .float .f64 (b)] 27)) (.cells #[.float .f64 (c), .float .f64 (d)] 27)) (.cells #[.float .f64 (0), .float .f64 (0)] 27)) (w.heap.size) 1 (.float .f64 (b)) := ⟨by simp [go_sem], by simp [go_sem]⟩
  have A1_0 : At (World.alloc (World.alloc (World.alloc w (.cells #[.float .f64 (a), .float .f64 (b)] 27)) (.cells #[.float .f64 (c), .float .f64 (d)] 27)) (.cells #[.float .f64 (0), .float .f64 (0)] 27)) (w.heap.size + 1) 0 (.float .f64 (c)) := ⟨by simp [go_sem], by simp [go_sem]⟩
  have A1_1 : At (World.alloc (World.alloc (World.alloc w (.cells #[.float .f64 (a), .float .f64 (b)] 27)) (.cells #[.float .f64 (c), .float .f64 (d)] 27)) (.cells #[.float .f64 (0), .float .f64 (0)] 27)) (w.heap.size + 1) 1 (.float .f64 (d)) := ⟨by simp [go_sem], by simp [go_sem]⟩
  have A2_0 : At (World.alloc (World.alloc (World.alloc w (.cells #[.float .f64 (a), .float .f64 (b)] 27)) (.cells #[.float .f64 (c), .float .f64 (d)] 27)) (.cells #[.float .f64 (0), .float .f64 (0)] 27)) (w.heap.size + 1 + 1) 0 (.float .f64 (0)) := ⟨by simp [go_sem], by simp [go_sem]⟩
  have A2_1 : At (World.alloc (World.alloc (World.alloc w (.cells #[.float .f64 (a), .float .f64 (b)] 27)) (.cells #[.float .f64 (c), .float .f64 (d)] 27)) (.cells #[.float .f64 (0), .float .f64 (0)] 27)) (w.heap.size + 1 + 1) 1 (.float .f64 (0)) := ⟨by simp [go_sem], by simp [go_sem]⟩
  have k0_0 := cell_regrown A0_0.1
  have k0_1 := cell_regrown A0_1.1
  have k1_0 := cell_regrown A1_0.1
  have k1_1 := cell_regrown A1_1.1
  have k2_0 := cell_regrown A2_0.1
  have k2_1 := cell_regrown A2_1.1
  refine wp_region_below_tail 4 (by kernel_rfl) (by kernel_rfl) ?_
  simp only [List.take_succ_cons, List.take_zero, List.drop_succ_cons, List.drop_zero]
  repeat (go_big_quiet_step ((first | (with_reducible exact Calls.regrown_of (TA.out _)) | (with_reducible exact Calls.regrown_of (TC.out _)))))
  refine wpQuiet_nil (fun w1 hbw1 => ?_)
  clear k0_0 k0_1 k1_0 k1_1 k2_0 k2_1
  replace A0_0 := At.below A0_0 hbw1
  replace A0_1 := At.below A0_1 hbw1
  replace A1_0 := At.below A1_0 hbw1
  replace A1_1 := At.below A1_1 hbw1
  replace A2_0 := At.below A2_0 hbw1
  replace A2_1 := At.below A2_1 hbw1
  have B := below_alloc (below_alloc (below_alloc (hbw1)))
  clear hbw1
  have F0_0 := A0_0.1; have G0_0 := A0_0.2
  have F0_1 := A0_1.1; have G0_1 := A0_1.2
  have F1_0 := A1_0.1; have G1_0 := A1_0.2
  have F1_1 := A1_1.1; have G1_1 := A1_1.2
  have F2_0 := A2_0.1; have G2_0 := A2_0.2
  have F2_1 := A2_1.1; have G2_1 := A2_1.2
  have Z0 := A0_0.lt
  have Z1 := A1_0.lt
  have Z2 := A2_0.lt
  iterate 6 go_step
  clear F0_0 G0_0 F0_1 G0_1 F1_0 G1_0 F1_1 G1_1 F2_0 G2_0 F2_1 G2_1 Z0 Z1 Z2
  replace A0_0 := At.set_same A0_0 (.float .f64 (ofKey (A)))
  replace A0_1 := At.set_off (f' := 0) A0_1 (by decide) (.float .f64 (ofKey (A)))
  replace A1_0 := At.set_blk (b' := w.heap.size) (f' := 0) A1_0 (by first | omega | (have := B.size; omega)) (.float .f64 (ofKey (A)))
  replace A1_1 := At.set_blk (b' := w.heap.size) (f' := 0) A1_1 (by first | omega | (have := B.size; omega)) (.float .f64 (ofKey (A)))
  replace A2_0 := At.set_blk (b' := w.heap.size) (f' := 0) A2_0 (by first | omega | (have := B.size; omega)) (.float .f64 (ofKey (A)))
  replace A2_1 := At.set_blk (b' := w.heap.size) (f' := 0) A2_1 (by first | omega | (have := B.size; omega)) (.float .f64 (ofKey (A)))
  replace A0_0 := At.set_off (f' := 1) A0_0 (by decide) (.float .f64 (ofKey (Bh)))
  replace A0_1 := At.set_same A0_1 (.float .f64 (ofKey (Bh)))
  replace A1_0 := At.set_blk (b' := w.heap.size) (f' := 1) A1_0 (by first | omega | (have := B.size; omega)) (.float .f64 (ofKey (Bh)))
  replace A1_1 := At.set_blk (b' := w.heap.size) (f' := 1) A1_1 (by first | omega | (have := B.size; omega)) (.float .f64 (ofKey (Bh)))
  replace A2_0 := At.set_blk (b' := w.heap.size) (f' := 1) A2_0 (by first | omega | (have := B.size; omega)) (.float .f64 (ofKey (Bh)))
  replace A2_1 := At.set_blk (b' := w.heap.size) (f' := 1) A2_1 (by first | omega | (have := B.size; omega)) (.float .f64 (ofKey (Bh)))
  replace A0_0 := At.set_blk (b' := w.heap.size + 1) (f' := 0) A0_0 (by first | omega | (have := B.size; omega)) (.float .f64 (ofKey (C)))
  replace A0_1 := At.set_blk (b' := w.heap.size + 1) (f' := 0) A0_1 (by first | omega | (have := B.size; omega)) (.float .f64 (ofKey (C)))
  replace A1_0 := At.set_same A1_0 (.float .f64 (ofKey (C)))
  replace A1_1 := At.set_off (f' := 0) A1_1 (by decide) (.float .f64 (ofKey (C)))
  replace A2_0 := At.set_blk (b' := w.heap.size + 1) (f' := 0) A2_0 (by first | omega | (have := B.size; omega)) (.float .f64 (ofKey (C)))
  replace A2_1 := At.set_blk (b' := w.heap.size + 1) (f' := 0) A2_1 (by first | omega | (have := B.size; omega)) (.float .f64 (ofKey (C)))
  replace A0_0 := At.set_blk (b' := w.heap.size + 1) (f' := 1) A0_0 (by first | omega | (have := B.size; omega)) (.float .f64 (ofKey (D)))
  replace A0_1 := At.set_blk (b' := w.heap.size + 1) (f' := 1) A0_1 (by first | omega | (have := B.size; omega)) (.float .f64 (ofKey (D)))
  replace A1_0 := At.set_off (f' := 1) A1_0 (by decide) (.float .f64 (ofKey (D)))
  replace A1_1 := At.set_same A1_1 (.float .f64 (ofKey (D)))
  replace A2_0 := At.set_blk (b' := w.heap.size + 1) (f' := 1) A2_0 (by first | omega | (have := B.size; omega)) (.float .f64 (ofKey (D)))
  replace A2_1 := At.set_blk (b' := w.heap.size + 1) (f' := 1) A2_1 (by first | omega | (have := B.size; omega)) (.float .f64 (ofKey (D)))
  have B' : Below w.heap.size w (World.setCell (World.setCell (World.setCell (World.setCell w1 ⟨w.heap.size, 0, none⟩ (.float .f64 (ofKey (A)))) ⟨w.heap.size, 1, none⟩ (.float .f64 (ofKey (Bh)))) ⟨w.heap.size + 1, 0, none⟩ (.float .f64 (ofKey (C)))) ⟨w.heap.size + 1, 1, none⟩ (.float .f64 (ofKey (D)))) := (Below.setCell (Below.setCell (Below.setCell (Below.setCell B (p := ⟨w.heap.size, 0, none⟩) (by first | (show w.heap.size ≤ w.heap.size; omega) | (have := B.size; show w.heap.size ≤ w.heap.size; omega)) (.float .f64 (ofKey (A)))) (p := ⟨w.heap.size, 1, none⟩) (by first | (show w.heap.size ≤ w.heap.size; omega) | (have := B.size; show w.heap.size ≤ w.heap.size; omega)) (.float .f64 (ofKey (Bh)))) (p := ⟨w.heap.size + 1, 0, none⟩) (by first | (show w.heap.size ≤ w.heap.size + 1; omega) | (have := B.size; show w.heap.size ≤ w.heap.size + 1; omega)) (.float .f64 (ofKey (C)))) (p := ⟨w.heap.size + 1, 1, none⟩) (by first | (show w.heap.size ≤ w.heap.size + 1; omega) | (have := B.size; show w.heap.size ≤ w.heap.size + 1; omega)) (.float .f64 (ofKey (D))))
  clear B
  obtain ⟨w2, hw2⟩ : ∃ w2, w2 = (World.setCell (World.setCell (World.setCell (World.setCell w1 ⟨w.heap.size, 0, none⟩ (.float .f64 (ofKey (A)))) ⟨w.heap.size, 1, none⟩ (.float .f64 (ofKey (Bh)))) ⟨w.heap.size + 1, 0, none⟩ (.float .f64 (ofKey (C)))) ⟨w.heap.size + 1, 1, none⟩ (.float .f64 (ofKey (D)))) := ⟨_, rfl⟩
  rw [← hw2]
  replace A0_0 := At.of A0_0 hw2
  replace A0_1 := At.of A0_1 hw2
  replace A1_0 := At.of A1_0 hw2
  replace A1_1 := At.of A1_1 hw2
  replace A2_0 := At.of A2_0 hw2
  replace A2_1 := At.of A2_1 hw2
  have B := below_of B' hw2
  clear B' hw2
  have F0_0 := A0_0.1; have G0_0 := A0_0.2
  have F0_1 := A0_1.1; have G0_1 := A0_1.2
  have F1_0 := A1_0.1; have G1_0 := A1_0.2
  have F1_1 := A1_1.1; have G1_1 := A1_1.2
  have F2_0 := A2_0.1; have G2_0 := A2_0.2
  have F2_1 := A2_1.1; have G2_1 := A2_1.2
  have Z0 := A0_0.lt
  have Z1 := A1_0.lt
  have Z2 := A2_0.lt
  go_wp2_with fail
  refine (HF.out _).mono ?_
  rintro e w3 ⟨rfl, hbw3⟩
  clear F0_0 G0_0 F0_1 G0_1 F1_0 G1_0 F1_1 G1_1 F2_0 G2_0 F2_1 G2_1 Z0 Z1 Z2
  replace A0_0 := At.below (A0_0) hbw3
  replace A0_1 := At.below (A0_1) hbw3
  replace A1_0 := At.below (A1_0) hbw3
  replace A1_1 := At.below (A1_1) hbw3
  replace A2_0 := At.below (A2_0) hbw3
  replace A2_1 := At.below (A2_1) hbw3
  replace B := below_step B B.size (hbw3)
  clear hbw3
  have F0_0 := A0_0.1; have G0_0 := A0_0.2
  have F0_1 := A0_1.1; have G0_1 := A0_1.2
  have F1_0 := A1_0.1; have G1_0 := A1_0.2
  have F1_1 := A1_1.1; have G1_1 := A1_1.2
  have F2_0 := A2_0.1; have G2_0 := A2_0.2
  have F2_1 := A2_1.1; have G2_1 := A2_1.2
  have Z0 := A0_0.lt
  have Z1 := A1_0.lt
  have Z2 := A2_0.lt
  go_wp2_with fail
  clear F0_0 G0_0 F0_1 G0_1 F1_0 G1_0 F1_1 G1_1 F2_0 G2_0 F2_1 G2_1 Z0 Z1 Z2
  have n1 : w.heap.size < w3.heap.size := by simpa only [World.size_setCell] using At.lt A0_0
  have n2 : w.heap.size + 1 < w3.heap.size := by simpa only [World.size_setCell] using At.lt A1_0
  have n3 : w.heap.size + 1 + 1 < w3.heap.size := by simpa only [World.size_setCell] using At.lt A2_0
  replace A0_0 : At (World.alloc w3 (.cells #[.nilFunc, .func (.func f) #[] #[]] 46)) _ _ _ := At.alloc (A0_0)
  replace A0_1 : At (World.alloc w3 (.cells #[.nilFunc, .func (.func f) #[] #[]] 46)) _ _ _ := At.alloc (A0_1)
  replace A1_0 : At (World.alloc w3 (.cells #[.nilFunc, .func (.func f) #[] #[]] 46)) _ _ _ := At.alloc (A1_0)
  replace A1_1 : At (World.alloc w3 (.cells #[.nilFunc, .func (.func f) #[] #[]] 46)) _ _ _ := At.alloc (A1_1)
  replace A2_0 : At (World.alloc w3 (.cells #[.nilFunc, .func (.func f) #[] #[]] 46)) _ _ _ := At.alloc (A2_0)
  replace A2_1 : At (World.alloc w3 (.cells #[.nilFunc, .func (.func f) #[] #[]] 46)) _ _ _ := At.alloc (A2_1)
  have A3_0 : At (World.alloc w3 (.cells #[.nilFunc, .func (.func f) #[] #[]] 46)) (w3.heap.size) 0 (.nilFunc) := ⟨by simp [go_sem], by simp [go_sem]⟩
  have A3_1 : At (World.alloc w3 (.cells #[.nilFunc, .func (.func f) #[] #[]] 46)) (w3.heap.size) 1 (.func (.func f) #[] #[]) := ⟨by simp [go_sem], by simp [go_sem]⟩
  have B' : Below w.heap.size w (World.alloc w3 (.cells #[.nilFunc, .func (.func f) #[] #[]] 46)) := (Below.alloc B (by first | exact B.size | (simp only [World.size_setCell, World.size_alloc]; have := B.size; omega)) _)
  clear B
  obtain ⟨w4, hw4⟩ : ∃ w4, w4 = (World.alloc w3 (.cells #[.nilFunc, .func (.func f) #[] #[]] 46)) := ⟨_, rfl⟩
  rw [← hw4]
  replace A0_0 := At.of A0_0 hw4
  replace A0_1 := At.of A0_1 hw4
  replace A1_0 := At.of A1_0 hw4
  replace A1_1 := At.of A1_1 hw4
  replace A2_0 := At.of A2_0 hw4
  replace A2_1 := At.of A2_1 hw4
  replace A3_0 := At.of A3_0 hw4
  replace A3_1 := At.of A3_1 hw4
  have B := below_of B' hw4
  clear B' hw4
  have F0_0 := A0_0.1; have G0_0 := A0_0.2
  have F0_1 := A0_1.1; have G0_1 := A0_1.2
  have F1_0 := A1_0.1; have G1_0 := A1_0.2
  have F1_1 := A1_1.1; have G1_1 := A1_1.2
  have F2_0 := A2_0.1; have G2_0 := A2_0.2
  have F2_1 := A2_1.1; have G2_1 := A2_1.2
  have F3_0 := A3_0.1; have G3_0 := A3_0.2
  have F3_1 := A3_1.1; have G3_1 := A3_1.2
  have Z0 := A0_0.lt
  have Z1 := A1_0.lt
  have Z2 := A2_0.lt
  have Z3 := A3_0.lt
  refine (NA.out _).mono ?_
  rintro e w5 ⟨rfl, hbw5⟩
  clear F0_0 G0_0 F0_1 G0_1 F1_0 G1_0 F1_1 G1_1 F2_0 G2_0 F2_1 G2_1 F3_0 G3_0 F3_1 G3_1 Z0 Z1 Z2 Z3
  replace A0_0 := At.below (A0_0) hbw5
  replace A0_1 := At.below (A0_1) hbw5
  replace A1_0 := At.below (A1_0) hbw5
  replace A1_1 := At.below (A1_1) hbw5
  replace A2_0 := At.below (A2_0) hbw5
  replace A2_1 := At.below (A2_1) hbw5
  replace A3_0 := At.below (A3_0) hbw5
  replace A3_1 := At.below (A3_1) hbw5
  replace B := below_step B B.size (hbw5)
  clear hbw5
  have F0_0 := A0_0.1; have G0_0 := A0_0.2
  have F0_1 := A0_1.1; have G0_1 := A0_1.2
  have F1_0 := A1_0.1; have G1_0 := A1_0.2
  have F1_1 := A1_1.1; have G1_1 := A1_1.2
  have F2_0 := A2_0.1; have G2_0 := A2_0.2
  have F2_1 := A2_1.1; have G2_1 := A2_1.2
  have F3_0 := A3_0.1; have G3_0 := A3_0.2
  have F3_1 := A3_1.1; have G3_1 := A3_1.2
  have Z0 := A0_0.lt
  have Z1 := A1_0.lt
  have Z2 := A2_0.lt
  have Z3 := A3_0.lt
  go_wp2_with fail
  refine (NC.out _).mono ?_
  rintro e w6 ⟨rfl, hbw6⟩
  clear F0_0 G0_0 F0_1 G0_1 F1_0 G1_0 F1_1 G1_1 F2_0 G2_0 F2_1 G2_1 F3_0 G3_0 F3_1 G3_1 Z0 Z1 Z2 Z3
  replace A0_0 := At.below (A0_0) hbw6
  replace A0_1 := At.below (A0_1) hbw6
  replace A1_0 := At.below (A1_0) hbw6
  replace A1_1 := At.below (A1_1) hbw6
  replace A2_0 := At.below (A2_0) hbw6
  replace A2_1 := At.below (A2_1) hbw6
  replace A3_0 := At.below (A3_0) hbw6
  replace A3_1 := At.below (A3_1) hbw6
  replace B := below_step B B.size (hbw6)
  clear hbw6
  have F0_0 := A0_0.1; have G0_0 := A0_0.2
  have F0_1 := A0_1.1; have G0_1 := A0_1.2
  have F1_0 := A1_0.1; have G1_0 := A1_0.2
  have F1_1 := A1_1.1; have G1_1 := A1_1.2
  have F2_0 := A2_0.1; have G2_0 := A2_0.2
  have F2_1 := A2_1.1; have G2_1 := A2_1.2
  have F3_0 := A3_0.1; have G3_0 := A3_0.2
  have F3_1 := A3_1.1; have G3_1 := A3_1.2
  have Z0 := A0_0.lt
  have Z1 := A1_0.lt
  have Z2 := A2_0.lt
  have Z3 := A3_0.lt
  go_wp2_with fail
  refine (HG.out _).mono ?_
  rintro e w7 ⟨rfl, hbw7⟩
  clear F0_0 G0_0 F0_1 G0_1 F1_0 G1_0 F1_1 G1_1 F2_0 G2_0 F2_1 G2_1 F3_0 G3_0 F3_1 G3_1 Z0 Z1 Z2 Z3
  replace A0_0 := At.below (A0_0) hbw7
  replace A0_1 := At.below (A0_1) hbw7
  replace A1_0 := At.below (A1_0) hbw7
  replace A1_1 := At.below (A1_1) hbw7
  replace A2_0 := At.below (A2_0) hbw7
  replace A2_1 := At.below (A2_1) hbw7
  replace A3_0 := At.below (A3_0) hbw7
  replace A3_1 := At.below (A3_1) hbw7
  replace B := below_step B B.size (hbw7)
  clear hbw7
  have F0_0 := A0_0.1; have G0_0 := A0_0.2
  have F0_1 := A0_1.1; have G0_1 := A0_1.2
  have F1_0 := A1_0.1; have G1_0 := A1_0.2
  have F1_1 := A1_1.1; have G1_1 := A1_1.2
  have F2_0 := A2_0.1; have G2_0 := A2_0.2
  have F2_1 := A2_1.1; have G2_1 := A2_1.2
  have F3_0 := A3_0.1; have G3_0 := A3_0.2
  have F3_1 := A3_1.1; have G3_1 := A3_1.2
  have Z0 := A0_0.lt
  have Z1 := A1_0.lt
  have Z2 := A2_0.lt
  have Z3 := A3_0.lt
  go_wp2_with fail
  refine (TK.out _).mono ?_
  rintro e w8 ⟨rfl, hbw8⟩
  clear F0_0 G0_0 F0_1 G0_1 F1_0 G1_0 F1_1 G1_1 F2_0 G2_0 F2_1 G2_1 F3_0 G3_0 F3_1 G3_1 Z0 Z1 Z2 Z3
  replace A0_0 := At.below (A0_0) hbw8
  replace A0_1 := At.below (A0_1) hbw8
  replace A1_0 := At.below (A1_0) hbw8
  replace A1_1 := At.below (A1_1) hbw8
  replace A2_0 := At.below (A2_0) hbw8
  replace A2_1 := At.below (A2_1) hbw8
  replace A3_0 := At.below (A3_0) hbw8
  replace A3_1 := At.below (A3_1) hbw8
  replace B := below_step B B.size (hbw8)
  clear hbw8
  have F0_0 := A0_0.1; have G0_0 := A0_0.2
  have F0_1 := A0_1.1; have G0_1 := A0_1.2
  have F1_0 := A1_0.1; have G1_0 := A1_0.2
  have F1_1 := A1_1.1; have G1_1 := A1_1.2
  have F2_0 := A2_0.1; have G2_0 := A2_0.2
  have F2_1 := A2_1.1; have G2_1 := A2_1.2
  have F3_0 := A3_0.1; have G3_0 := A3_0.2
  have F3_1 := A3_1.1; have G3_1 := A3_1.2
  have Z0 := A0_0.lt
  have Z1 := A1_0.lt
  have Z2 := A2_0.lt
  have Z3 := A3_0.lt
  go_wp2_with fail
  clear F0_0 G0_0 F0_1 G0_1 F1_0 G1_0 F1_1 G1_1 F2_0 G2_0 F2_1 G2_1 F3_0 G3_0 F3_1 G3_1 Z0 Z1 Z2 Z3
  replace A0_0 := At.set_blk (b' := w.heap.size + 1 + 1) (f' := 0) A0_0 (by first | omega | (have := B.size; omega)) (.float .f64 (ofKey (X)))
  replace A0_1 := At.set_blk (b' := w.heap.size + 1 + 1) (f' := 0) A0_1 (by first | omega | (have := B.size; omega)) (.float .f64 (ofKey (X)))
  replace A1_0 := At.set_blk (b' := w.heap.size + 1 + 1) (f' := 0) A1_0 (by first | omega | (have := B.size; omega)) (.float .f64 (ofKey (X)))
  replace A1_1 := At.set_blk (b' := w.heap.size + 1 + 1) (f' := 0) A1_1 (by first | omega | (have := B.size; omega)) (.float .f64 (ofKey (X)))
  replace A2_0 := At.set_same A2_0 (.float .f64 (ofKey (X)))
  replace A2_1 := At.set_off (f' := 0) A2_1 (by decide) (.float .f64 (ofKey (X)))
  replace A3_0 := At.set_blk (b' := w.heap.size + 1 + 1) (f' := 0) A3_0 (by first | omega | (have := B.size; omega)) (.float .f64 (ofKey (X)))
  replace A3_1 := At.set_blk (b' := w.heap.size + 1 + 1) (f' := 0) A3_1 (by first | omega | (have := B.size; omega)) (.float .f64 (ofKey (X)))
  replace A0_0 := At.set_blk (b' := w.heap.size + 1 + 1) (f' := 1) A0_0 (by first | omega | (have := B.size; omega)) (.float .f64 (ofKey (Y)))
  replace A0_1 := At.set_blk (b' := w.heap.size + 1 + 1) (f' := 1) A0_1 (by first | omega | (have := B.size; omega)) (.float .f64 (ofKey (Y)))
  replace A1_0 := At.set_blk (b' := w.heap.size + 1 + 1) (f' := 1) A1_0 (by first | omega | (have := B.size; omega)) (.float .f64 (ofKey (Y)))
  replace A1_1 := At.set_blk (b' := w.heap.size + 1 + 1) (f' := 1) A1_1 (by first | omega | (have := B.size; omega)) (.float .f64 (ofKey (Y)))
  replace A2_0 := At.set_off (f' := 1) A2_0 (by decide) (.float .f64 (ofKey (Y)))
  replace A2_1 := At.set_same A2_1 (.float .f64 (ofKey (Y)))
  replace A3_0 := At.set_blk (b' := w.heap.size + 1 + 1) (f' := 1) A3_0 (by first | omega | (have := B.size; omega)) (.float .f64 (ofKey (Y)))
  replace A3_1 := At.set_blk (b' := w.heap.size + 1 + 1) (f' := 1) A3_1 (by first | omega | (have := B.size; omega)) (.float .f64 (ofKey (Y)))
  have B' : Below w.heap.size w (World.setCell (World.setCell w8 ⟨w.heap.size + 1 + 1, 0, none⟩ (.float .f64 (ofKey (X)))) ⟨w.heap.size + 1 + 1, 1, none⟩ (.float .f64 (ofKey (Y)))) := (Below.setCell (Below.setCell B (p := ⟨w.heap.size + 1 + 1, 0, none⟩) (by first | (show w.heap.size ≤ w.heap.size + 1 + 1; omega) | (have := B.size; show w.heap.size ≤ w.heap.size + 1 + 1; omega)) (.float .f64 (ofKey (X)))) (p := ⟨w.heap.size + 1 + 1, 1, none⟩) (by first | (show w.heap.size ≤ w.heap.size + 1 + 1; omega) | (have := B.size; show w.heap.size ≤ w.heap.size + 1 + 1; omega)) (.float .f64 (ofKey (Y))))
  clear B
  obtain ⟨wz, hwz⟩ : ∃ wz, wz = (World.setCell (World.setCell w8 ⟨w.heap.size + 1 + 1, 0, none⟩ (.float .f64 (ofKey (X)))) ⟨w.heap.size + 1 + 1, 1, none⟩ (.float .f64 (ofKey (Y)))) := ⟨_, rfl⟩
  rw [← hwz]
  replace A0_0 := At.of A0_0 hwz
  replace A0_1 := At.of A0_1 hwz
  replace A1_0 := At.of A1_0 hwz
  replace A1_1 := At.of A1_1 hwz
  replace A2_0 := At.of A2_0 hwz
  replace A2_1 := At.of A2_1 hwz
  replace A3_0 := At.of A3_0 hwz
  replace A3_1 := At.of A3_1 hwz
  have B := below_of B' hwz
  clear B' hwz
  have F0_0 := A0_0.1; have G0_0 := A0_0.2
  have F0_1 := A0_1.1; have G0_1 := A0_1.2
  have F1_0 := A1_0.1; have G1_0 := A1_0.2
  have F1_1 := A1_1.1; have G1_1 := A1_1.2
  have F2_0 := A2_0.1; have G2_0 := A2_0.2
  have F2_1 := A2_1.1; have G2_1 := A2_1.2
  have F3_0 := A3_0.1; have G3_0 := A3_0.2
  have F3_1 := A3_1.1; have G3_1 := A3_1.2
  have Z0 := A0_0.lt
  have Z1 := A1_0.lt
  have Z2 := A2_0.lt
  have Z3 := A3_0.lt
  refine bodyPost_ret (v := .agg #[.float .f64 (ofKey (X)), .float .f64 (ofKey (Y))]) (by simp [results, Try.results13, go_sem, F2_0, F2_1]) rfl ⟨rfl, ?_⟩
  exact B

set_option maxHeartbeats 1000000 in
theorem apply_two_no (o : Int) (a b c d : Nat) (ha : Wd a) (hb : Wd b) (hc : Wd c) (hd : Wd d) (f : FuncId) (hent : Enters Try.prog f) (hf : ∀ w, Calls Try.prog 22 #[.int .i64 o] w fun e w' => e = .returned (rowTwo f) ∧ Below w.heap.size w w') (hn : tkLo a b = PI ∧ tkHi a b = -PI) (w : World) :
    Calls Try.prog 13 #[.int .i64 o, .agg #[.float .f64 (a), .float .f64 (b)], .agg #[.float .f64 (c), .float .f64 (d)]] w fun e w' => e = .returned (.agg #[.float .f64 (ofKey (PI)), .float .f64 (ofKey (-PI))]) ∧ Below w.heap.size w w' := by
  have vA := tk_iv a b
  have vC := tk_iv c d
  have rA := vA.1; have rB := vA.2.1; have rC := vC.1; have rD := vC.2.1
  have TA := Lib.hid (fun w => ivltake_any a b ha hb w)
  have TC := Lib.hid (fun w => ivltake_any c d hc hd w)
  have x1 := neq_one
  have x2 := neq_two
  have x3 := neq_one0
  have x4 := neq_two0
  have hent : ∀ (args : Array Value) (w : World), (callFunc f args).run Try.prog w = .ok (.enter f args) w := hent
  have HF := Lib.hid hf
  unfold rowTwo at HF
  have hNA := fun w => ivlno_any _ _ rA rB w
  rw [decide_eq_true hn] at hNA
  have NA := Lib.hid hNA
  clear hNA hn hf
  generalize tkLo a b = A at *
  generalize tkHi a b = Bh at *
  generalize tkLo c d = C at *
  generalize tkHi c d = D at *
  clear vA vC
  go_enter Try.func13, Try.ntmps13
  go_wp2_with fail
  have A0_0 : At (World.alloc (World.alloc (World.alloc w (.cells #[.float .f64 (a), .float .f64 (b)] 27)) (.cells #[.float .f64 (c), .float .f64 (d)] 27)) (.cells #[.float .f64 (0), .float .f64 (0)] 27)) (w.heap.size) 0 (.float .f64 (a)) := ⟨by simp [go_sem], by simp [go_sem]⟩
  have A0_1 : At (World.alloc (World.alloc (World.alloc w (.cells #[.float .f64 (a), .float .f64 (b)] 27)) (.cells #[.float .f64 (c), .float .f64 (d)] 27)) (.cells #[.float .f64 (0), .float .f64 (0)] 27)) (w.heap.size) 1 (.float .f64 (b)) := ⟨by simp [go_sem], by simp [go_sem]⟩
  have A1_0 : At (World.alloc (World.alloc (World.alloc w (.cells #[.float .f64 (a), .float .f64 (b)] 27)) (.cells #[.float .f64 (c), .float .f64 (d)] 27)) (.cells #[.float .f64 (0), .float .f64 (0)] 27)) (w.heap.size + 1) 0 (.float .f64 (c)) := ⟨by simp [go_sem], by simp [go_sem]⟩
  have A1_1 : At (World.alloc (World.alloc (World.alloc w (.cells #[.float .f64 (a), .float .f64 (b)] 27)) (.cells #[.float .f64 (c), .float .f64 (d)] 27)) (.cells #[.float .f64 (0), .float .f64 (0)] 27)) (w.heap.size + 1) 1 (.float .f64 (d)) := ⟨by simp [go_sem], by simp [go_sem]⟩
  have A2_0 : At (World.alloc (World.alloc (World.alloc w (.cells #[.float .f64 (a), .float .f64 (b)] 27)) (.cells #[.float .f64 (c), .float .f64 (d)] 27)) (.cells #[.float .f64 (0), .float .f64 (0)] 27)) (w.heap.size + 1 + 1) 0 (.float .f64 (0)) := ⟨by simp [go_sem], by simp [go_sem]⟩
  have A2_1 : At (World.alloc (World.alloc (World.alloc w (.cells #[.float .f64 (a), .float .f64 (b)] 27)) (.cells #[.float .f64 (c), .float .f64 (d)] 27)) (.cells #[.float .f64 (0), .float .f64 (0)] 27)) (w.heap.size + 1 + 1) 1 (.float .f64 (0)) := ⟨by simp [go_sem], by simp [go_sem]⟩
  have k0_0 := cell_regrown A0_0.1
  have k0_1 := cell_regrown A0_1.1
  have k1_0 := cell_regrown A1_0.1
  have k1_1 := cell_regrown A1_1.1
  have k2_0 := cell_regrown A2_0.1
  have k2_1 := cell_regrown A2_1.1
  refine wp_region_below_tail 4 (by kernel_rfl) (by kernel_rfl) ?_
  simp only [List.take_succ_cons, List.take_zero, List.drop_succ_cons, List.drop_zero]
  repeat (go_big_quiet_step ((first | (with_reducible exact Calls.regrown_of (TA.out _)) | (with_reducible exact Calls.regrown_of (TC.out _)))))
  refine wpQuiet_nil (fun w1 hbw1 => ?_)
  clear k0_0 k0_1 k1_0 k1_1 k2_0 k2_1
  replace A0_0 := At.below A0_0 hbw1
  replace A0_1 := At.below A0_1 hbw1
  replace A1_0 := At.below A1_0 hbw1
  replace A1_1 := At.below A1_1 hbw1
  replace A2_0 := At.below A2_0 hbw1
  replace A2_1 := At.below A2_1 hbw1
  have B := below_alloc (below_alloc (below_alloc (hbw1)))
  clear hbw1
  have F0_0 := A0_0.1; have G0_0 := A0_0.2
  have F0_1 := A0_1.1; have G0_1 := A0_1.2
  have F1_0 := A1_0.1; have G1_0 := A1_0.2
  have F1_1 := A1_1.1; have G1_1 := A1_1.2
  have F2_0 := A2_0.1; have G2_0 := A2_0.2
  have F2_1 := A2_1.1; have G2_1 := A2_1.2
  have Z0 := A0_0.lt
  have Z1 := A1_0.lt
  have Z2 := A2_0.lt
  iterate 6 go_step
  clear F0_0 G0_0 F0_1 G0_1 F1_0 G1_0 F1_1 G1_1 F2_0 G2_0 F2_1 G2_1 Z0 Z1 Z2
  replace A0_0 := At.set_same A0_0 (.float .f64 (ofKey (A)))
  replace A0_1 := At.set_off (f' := 0) A0_1 (by decide) (.float .f64 (ofKey (A)))
  replace A1_0 := At.set_blk (b' := w.heap.size) (f' := 0) A1_0 (by first | omega | (have := B.size; omega)) (.float .f64 (ofKey (A)))
  replace A1_1 := At.set_blk (b' := w.heap.size) (f' := 0) A1_1 (by first | omega | (have := B.size; omega)) (.float .f64 (ofKey (A)))
  replace A2_0 := At.set_blk (b' := w.heap.size) (f' := 0) A2_0 (by first | omega | (have := B.size; omega)) (.float .f64 (ofKey (A)))
  replace A2_1 := At.set_blk (b' := w.heap.size) (f' := 0) A2_1 (by first | omega | (have := B.size; omega)) (.float .f64 (ofKey (A)))
  replace A0_0 := At.set_off (f' := 1) A0_0 (by decide) (.float .f64 (ofKey (Bh)))
  replace A0_1 := At.set_same A0_1 (.float .f64 (ofKey (Bh)))
  replace A1_0 := At.set_blk (b' := w.heap.size) (f' := 1) A1_0 (by first | omega | (have := B.size; omega)) (.float .f64 (ofKey (Bh)))
  replace A1_1 := At.set_blk (b' := w.heap.size) (f' := 1) A1_1 (by first | omega | (have := B.size; omega)) (.float .f64 (ofKey (Bh)))
  replace A2_0 := At.set_blk (b' := w.heap.size) (f' := 1) A2_0 (by first | omega | (have := B.size; omega)) (.float .f64 (ofKey (Bh)))
  replace A2_1 := At.set_blk (b' := w.heap.size) (f' := 1) A2_1 (by first | omega | (have := B.size; omega)) (.float .f64 (ofKey (Bh)))
  replace A0_0 := At.set_blk (b' := w.heap.size + 1) (f' := 0) A0_0 (by first | omega | (have := B.size; omega)) (.float .f64 (ofKey (C)))
  replace A0_1 := At.set_blk (b' := w.heap.size + 1) (f' := 0) A0_1 (by first | omega | (have := B.size; omega)) (.float .f64 (ofKey (C)))
  replace A1_0 := At.set_same A1_0 (.float .f64 (ofKey (C)))
  replace A1_1 := At.set_off (f' := 0) A1_1 (by decide) (.float .f64 (ofKey (C)))
  replace A2_0 := At.set_blk (b' := w.heap.size + 1) (f' := 0) A2_0 (by first | omega | (have := B.size; omega)) (.float .f64 (ofKey (C)))
  replace A2_1 := At.set_blk (b' := w.heap.size + 1) (f' := 0) A2_1 (by first | omega | (have := B.size; omega)) (.float .f64 (ofKey (C)))
  replace A0_0 := At.set_blk (b' := w.heap.size + 1) (f' := 1) A0_0 (by first | omega | (have := B.size; omega)) (.float .f64 (ofKey (D)))
  replace A0_1 := At.set_blk (b' := w.heap.size + 1) (f' := 1) A0_1 (by first | omega | (have := B.size; omega)) (.float .f64 (ofKey (D)))
  replace A1_0 := At.set_off (f' := 1) A1_0 (by decide) (.float .f64 (ofKey (D)))
  replace A1_1 := At.set_same A1_1 (.float .f64 (ofKey (D)))
  replace A2_0 := At.set_blk (b' := w.heap.size + 1) (f' := 1) A2_0 (by first | omega | (have := B.size; omega)) (.float .f64 (ofKey (D)))
  replace A2_1 := At.set_blk (b' := w.heap.size + 1) (f' := 1) A2_1 (by first | omega | (have := B.size; omega)) (.float .f64 (ofKey (D)))
  have B' : Below w.heap.size w (World.setCell (World.setCell (World.setCell (World.setCell w1 ⟨w.heap.size, 0, none⟩ (.float .f64 (ofKey (A)))) ⟨w.heap.size, 1, none⟩ (.float .f64 (ofKey (Bh)))) ⟨w.heap.size + 1, 0, none⟩ (.float .f64 (ofKey (C)))) ⟨w.heap.size + 1, 1, none⟩ (.float .f64 (ofKey (D)))) := (Below.setCell (Below.setCell (Below.setCell (Below.setCell B (p := ⟨w.heap.size, 0, none⟩) (by first | (show w.heap.size ≤ w.heap.size; omega) | (have := B.size; show w.heap.size ≤ w.heap.size; omega)) (.float .f64 (ofKey (A)))) (p := ⟨w.heap.size, 1, none⟩) (by first | (show w.heap.size ≤ w.heap.size; omega) | (have := B.size; show w.heap.size ≤ w.heap.size; omega)) (.float .f64 (ofKey (Bh)))) (p := ⟨w.heap.size + 1, 0, none⟩) (by first | (show w.heap.size ≤ w.heap.size + 1; omega) | (have := B.size; show w.heap.size ≤ w.heap.size + 1; omega)) (.float .f64 (ofKey (C)))) (p := ⟨w.heap.size + 1, 1, none⟩) (by first | (show w.heap.size ≤ w.heap.size + 1; omega) | (have := B.size; show w.heap.size ≤ w.heap.size + 1; omega)) (.float .f64 (ofKey (D))))
  clear B
  obtain ⟨w2, hw2⟩ : ∃ w2, w2 = (World.setCell (World.setCell (World.setCell (World.setCell w1 ⟨w.heap.size, 0, none⟩ (.float .f64 (ofKey (A)))) ⟨w.heap.size, 1, none⟩ (.float .f64 (ofKey (Bh)))) ⟨w.heap.size + 1, 0, none⟩ (.float .f64 (ofKey (C)))) ⟨w.heap.size + 1, 1, none⟩ (.float .f64 (ofKey (D)))) := ⟨_, rfl⟩
  rw [← hw2]
  replace A0_0 := At.of A0_0 hw2
  replace A0_1 := At.of A0_1 hw2
  replace A1_0 := At.of A1_0 hw2
  replace A1_1 := At.of A1_1 hw2
  replace A2_0 := At.of A2_0 hw2
  replace A2_1 := At.of A2_1 hw2
  have B := below_of B' hw2
  clear B' hw2
  have F0_0 := A0_0.1; have G0_0 := A0_0.2
  have F0_1 := A0_1.1; have G0_1 := A0_1.2
  have F1_0 := A1_0.1; have G1_0 := A1_0.2
  have F1_1 := A1_1.1; have G1_1 := A1_1.2
  have F2_0 := A2_0.1; have G2_0 := A2_0.2
  have F2_1 := A2_1.1; have G2_1 := A2_1.2
  have Z0 := A0_0.lt
  have Z1 := A1_0.lt
  have Z2 := A2_0.lt
  go_wp2_with fail
  refine (HF.out _).mono ?_
  rintro e w3 ⟨rfl, hbw3⟩
  clear F0_0 G0_0 F0_1 G0_1 F1_0 G1_0 F1_1 G1_1 F2_0 G2_0 F2_1 G2_1 Z0 Z1 Z2
  replace A0_0 := At.below (A0_0) hbw3
  replace A0_1 := At.below (A0_1) hbw3
  replace A1_0 := At.below (A1_0) hbw3
  replace A1_1 := At.below (A1_1) hbw3
  replace A2_0 := At.below (A2_0) hbw3
  replace A2_1 := At.below (A2_1) hbw3
  replace B := below_step B B.size (hbw3)
  clear hbw3
  have F0_0 := A0_0.1; have G0_0 := A0_0.2
  have F0_1 := A0_1.1; have G0_1 := A0_1.2
  have F1_0 := A1_0.1; have G1_0 := A1_0.2
  have F1_1 := A1_1.1; have G1_1 := A1_1.2
  have F2_0 := A2_0.1; have G2_0 := A2_0.2
  have F2_1 := A2_1.1; have G2_1 := A2_1.2
  have Z0 := A0_0.lt
  have Z1 := A1_0.lt
  have Z2 := A2_0.lt
  go_wp2_with fail
  clear F0_0 G0_0 F0_1 G0_1 F1_0 G1_0 F1_1 G1_1 F2_0 G2_0 F2_1 G2_1 Z0 Z1 Z2
  have n1 : w.heap.size < w3.heap.size := by simpa only [World.size_setCell] using At.lt A0_0
  have n2 : w.heap.size + 1 < w3.heap.size := by simpa only [World.size_setCell] using At.lt A1_0
  have n3 : w.heap.size + 1 + 1 < w3.heap.size := by simpa only [World.size_setCell] using At.lt A2_0
  replace A0_0 : At (World.alloc w3 (.cells #[.nilFunc, .func (.func f) #[] #[]] 46)) _ _ _ := At.alloc (A0_0)
  replace A0_1 : At (World.alloc w3 (.cells #[.nilFunc, .func (.func f) #[] #[]] 46)) _ _ _ := At.alloc (A0_1)
  replace A1_0 : At (World.alloc w3 (.cells #[.nilFunc, .func (.func f) #[] #[]] 46)) _ _ _ := At.alloc (A1_0)
  replace A1_1 : At (World.alloc w3 (.cells #[.nilFunc, .func (.func f) #[] #[]] 46)) _ _ _ := At.alloc (A1_1)
  replace A2_0 : At (World.alloc w3 (.cells #[.nilFunc, .func (.func f) #[] #[]] 46)) _ _ _ := At.alloc (A2_0)
  replace A2_1 : At (World.alloc w3 (.cells #[.nilFunc, .func (.func f) #[] #[]] 46)) _ _ _ := At.alloc (A2_1)
  have A3_0 : At (World.alloc w3 (.cells #[.nilFunc, .func (.func f) #[] #[]] 46)) (w3.heap.size) 0 (.nilFunc) := ⟨by simp [go_sem], by simp [go_sem]⟩
  have A3_1 : At (World.alloc w3 (.cells #[.nilFunc, .func (.func f) #[] #[]] 46)) (w3.heap.size) 1 (.func (.func f) #[] #[]) := ⟨by simp [go_sem], by simp [go_sem]⟩
  have B' : Below w.heap.size w (World.alloc w3 (.cells #[.nilFunc, .func (.func f) #[] #[]] 46)) := (Below.alloc B (by first | exact B.size | (simp only [World.size_setCell, World.size_alloc]; have := B.size; omega)) _)
  clear B
  obtain ⟨w4, hw4⟩ : ∃ w4, w4 = (World.alloc w3 (.cells #[.nilFunc, .func (.func f) #[] #[]] 46)) := ⟨_, rfl⟩
  rw [← hw4]
  replace A0_0 := At.of A0_0 hw4
  replace A0_1 := At.of A0_1 hw4
  replace A1_0 := At.of A1_0 hw4
  replace A1_1 := At.of A1_1 hw4
  replace A2_0 := At.of A2_0 hw4
  replace A2_1 := At.of A2_1 hw4
  replace A3_0 := At.of A3_0 hw4
  replace A3_1 := At.of A3_1 hw4
  have B := below_of B' hw4
  clear B' hw4
  have F0_0 := A0_0.1; have G0_0 := A0_0.2
  have F0_1 := A0_1.1; have G0_1 := A0_1.2
  have F1_0 := A1_0.1; have G1_0 := A1_0.2
  have F1_1 := A1_1.1; have G1_1 := A1_1.2
  have F2_0 := A2_0.1; have G2_0 := A2_0.2
  have F2_1 := A2_1.1; have G2_1 := A2_1.2
  have F3_0 := A3_0.1; have G3_0 := A3_0.2
  have F3_1 := A3_1.1; have G3_1 := A3_1.2
  have Z0 := A0_0.lt
  have Z1 := A1_0.lt
  have Z2 := A2_0.lt
  have Z3 := A3_0.lt
  refine (NA.out _).mono ?_
  rintro e w5 ⟨rfl, hbw5⟩
  clear F0_0 G0_0 F0_1 G0_1 F1_0 G1_0 F1_1 G1_1 F2_0 G2_0 F2_1 G2_1 F3_0 G3_0 F3_1 G3_1 Z0 Z1 Z2 Z3
  replace A0_0 := At.below (A0_0) hbw5
  replace A0_1 := At.below (A0_1) hbw5
  replace A1_0 := At.below (A1_0) hbw5
  replace A1_1 := At.below (A1_1) hbw5
  replace A2_0 := At.below (A2_0) hbw5
  replace A2_1 := At.below (A2_1) hbw5
  replace A3_0 := At.below (A3_0) hbw5
  replace A3_1 := At.below (A3_1) hbw5
  replace B := below_step B B.size (hbw5)
  clear hbw5
  have F0_0 := A0_0.1; have G0_0 := A0_0.2
  have F0_1 := A0_1.1; have G0_1 := A0_1.2
  have F1_0 := A1_0.1; have G1_0 := A1_0.2
  have F1_1 := A1_1.1; have G1_1 := A1_1.2
  have F2_0 := A2_0.1; have G2_0 := A2_0.2
  have F2_1 := A2_1.1; have G2_1 := A2_1.2
  have F3_0 := A3_0.1; have G3_0 := A3_0.2
  have F3_1 := A3_1.1; have G3_1 := A3_1.2
  have Z0 := A0_0.lt
  have Z1 := A1_0.lt
  have Z2 := A2_0.lt
  have Z3 := A3_0.lt
  go_wp2_with fail
  refine (ivlempty_any _).mono ?_
  rintro e w6 ⟨rfl, hbw6⟩
  clear F0_0 G0_0 F0_1 G0_1 F1_0 G1_0 F1_1 G1_1 F2_0 G2_0 F2_1 G2_1 F3_0 G3_0 F3_1 G3_1 Z0 Z1 Z2 Z3
  replace A0_0 := At.below (A0_0) hbw6
  replace A0_1 := At.below (A0_1) hbw6
  replace A1_0 := At.below (A1_0) hbw6
  replace A1_1 := At.below (A1_1) hbw6
  replace A2_0 := At.below (A2_0) hbw6
  replace A2_1 := At.below (A2_1) hbw6
  replace A3_0 := At.below (A3_0) hbw6
  replace A3_1 := At.below (A3_1) hbw6
  replace B := below_step B B.size (hbw6)
  clear hbw6
  have F0_0 := A0_0.1; have G0_0 := A0_0.2
  have F0_1 := A0_1.1; have G0_1 := A0_1.2
  have F1_0 := A1_0.1; have G1_0 := A1_0.2
  have F1_1 := A1_1.1; have G1_1 := A1_1.2
  have F2_0 := A2_0.1; have G2_0 := A2_0.2
  have F2_1 := A2_1.1; have G2_1 := A2_1.2
  have F3_0 := A3_0.1; have G3_0 := A3_0.2
  have F3_1 := A3_1.1; have G3_1 := A3_1.2
  have Z0 := A0_0.lt
  have Z1 := A1_0.lt
  have Z2 := A2_0.lt
  have Z3 := A3_0.lt
  go_wp2_with fail
  clear F0_0 G0_0 F0_1 G0_1 F1_0 G1_0 F1_1 G1_1 F2_0 G2_0 F2_1 G2_1 F3_0 G3_0 F3_1 G3_1 Z0 Z1 Z2 Z3
  replace A0_0 := At.set_blk (b' := w.heap.size + 1 + 1) (f' := 0) A0_0 (by first | omega | (have := B.size; omega)) (.float .f64 (ofKey (PI)))
  replace A0_1 := At.set_blk (b' := w.heap.size + 1 + 1) (f' := 0) A0_1 (by first | omega | (have := B.size; omega)) (.float .f64 (ofKey (PI)))
  replace A1_0 := At.set_blk (b' := w.heap.size + 1 + 1) (f' := 0) A1_0 (by first | omega | (have := B.size; omega)) (.float .f64 (ofKey (PI)))
  replace A1_1 := At.set_blk (b' := w.heap.size + 1 + 1) (f' := 0) A1_1 (by first | omega | (have := B.size; omega)) (.float .f64 (ofKey (PI)))
  replace A2_0 := At.set_same A2_0 (.float .f64 (ofKey (PI)))
  replace A2_1 := At.set_off (f' := 0) A2_1 (by decide) (.float .f64 (ofKey (PI)))
  replace A3_0 := At.set_blk (b' := w.heap.size + 1 + 1) (f' := 0) A3_0 (by first | omega | (have := B.size; omega)) (.float .f64 (ofKey (PI)))
  replace A3_1 := At.set_blk (b' := w.heap.size + 1 + 1) (f' := 0) A3_1 (by first | omega | (have := B.size; omega)) (.float .f64 (ofKey (PI)))
  replace A0_0 := At.set_blk (b' := w.heap.size + 1 + 1) (f' := 1) A0_0 (by first | omega | (have := B.size; omega)) (.float .f64 (ofKey (-PI)))
  replace A0_1 := At.set_blk (b' := w.heap.size + 1 + 1) (f' := 1) A0_1 (by first | omega | (have := B.size; omega)) (.float .f64 (ofKey (-PI)))
  replace A1_0 := At.set_blk (b' := w.heap.size + 1 + 1) (f' := 1) A1_0 (by first | omega | (have := B.size; omega)) (.float .f64 (ofKey (-PI)))
  replace A1_1 := At.set_blk (b' := w.heap.size + 1 + 1) (f' := 1) A1_1 (by first | omega | (have := B.size; omega)) (.float .f64 (ofKey (-PI)))
  replace A2_0 := At.set_off (f' := 1) A2_0 (by decide) (.float .f64 (ofKey (-PI)))
  replace A2_1 := At.set_same A2_1 (.float .f64 (ofKey (-PI)))
  replace A3_0 := At.set_blk (b' := w.heap.size + 1 + 1) (f' := 1) A3_0 (by first | omega | (have := B.size; omega)) (.float .f64 (ofKey (-PI)))
  replace A3_1 := At.set_blk (b' := w.heap.size + 1 + 1) (f' := 1) A3_1 (by first | omega | (have := B.size; omega)) (.float .f64 (ofKey (-PI)))
  have B' : Below w.heap.size w (World.setCell (World.setCell w6 ⟨w.heap.size + 1 + 1, 0, none⟩ (.float .f64 (ofKey (PI)))) ⟨w.heap.size + 1 + 1, 1, none⟩ (.float .f64 (ofKey (-PI)))) := (Below.setCell (Below.setCell B (p := ⟨w.heap.size + 1 + 1, 0, none⟩) (by first | (show w.heap.size ≤ w.heap.size + 1 + 1; omega) | (have := B.size; show w.heap.size ≤ w.heap.size + 1 + 1; omega)) (.float .f64 (ofKey (PI)))) (p := ⟨w.heap.size + 1 + 1, 1, none⟩) (by first | (show w.heap.size ≤ w.heap.size + 1 + 1; omega) | (have := B.size; show w.heap.size ≤ w.heap.size + 1 + 1; omega)) (.float .f64 (ofKey (-PI))))
  clear B
  obtain ⟨wz, hwz⟩ : ∃ wz, wz = (World.setCell (World.setCell w6 ⟨w.heap.size + 1 + 1, 0, none⟩ (.float .f64 (ofKey (PI)))) ⟨w.heap.size + 1 + 1, 1, none⟩ (.float .f64 (ofKey (-PI)))) := ⟨_, rfl⟩
  rw [← hwz]
  replace A0_0 := At.of A0_0 hwz
  replace A0_1 := At.of A0_1 hwz
  replace A1_0 := At.of A1_0 hwz
  replace A1_1 := At.of A1_1 hwz
  replace A2_0 := At.of A2_0 hwz
  replace A2_1 := At.of A2_1 hwz
  replace A3_0 := At.of A3_0 hwz
  replace A3_1 := At.of A3_1 hwz
  have B := below_of B' hwz
  clear B' hwz
  have F0_0 := A0_0.1; have G0_0 := A0_0.2
  have F0_1 := A0_1.1; have G0_1 := A0_1.2
  have F1_0 := A1_0.1; have G1_0 := A1_0.2
  have F1_1 := A1_1.1; have G1_1 := A1_1.2
  have F2_0 := A2_0.1; have G2_0 := A2_0.2
  have F2_1 := A2_1.1; have G2_1 := A2_1.2
  have F3_0 := A3_0.1; have G3_0 := A3_0.2
  have F3_1 := A3_1.1; have G3_1 := A3_1.2
  have Z0 := A0_0.lt
  have Z1 := A1_0.lt
  have Z2 := A2_0.lt
  have Z3 := A3_0.lt
  refine bodyPost_ret (v := .agg #[.float .f64 (ofKey (PI)), .float .f64 (ofKey (-PI))]) (by simp [results, Try.results13, go_sem, F2_0, F2_1]) rfl ⟨rfl, ?_⟩
  exact B

set_option maxHeartbeats 1000000 in
theorem apply_two_no2 (o : Int) (a b c d : Nat) (ha : Wd a) (hb : Wd b) (hc : Wd c) (hd : Wd d) (f : FuncId) (hent : Enters Try.prog f) (hf : ∀ w, Calls Try.prog 22 #[.int .i64 o] w fun e w' => e = .returned (rowTwo f) ∧ Below w.heap.size w w') (hn : ¬ (tkLo a b = PI ∧ tkHi a b = -PI)) (hn2 : tkLo c d = PI ∧ tkHi c d = -PI) (w : World) :
    Calls Try.prog 13 #[.int .i64 o, .agg #[.float .f64 (a), .float .f64 (b)], .agg #[.float .f64 (c), .float .f64 (d)]] w fun e w' => e = .returned (.agg #[.float .f64 (ofKey (PI)), .float .f64 (ofKey (-PI))]) ∧ Below w.heap.size w w' := by
  have vA := tk_iv a b
  have vC := tk_iv c d
  have rA := vA.1; have rB := vA.2.1; have rC := vC.1; have rD := vC.2.1
  have TA := Lib.hid (fun w => ivltake_any a b ha hb w)
  have TC := Lib.hid (fun w => ivltake_any c d hc hd w)
  have x1 := neq_one
  have x2 := neq_two
  have x3 := neq_one0
  have x4 := neq_two0
  have hent : ∀ (args : Array Value) (w : World), (callFunc f args).run Try.prog w = .ok (.enter f args) w := hent
  have HF := Lib.hid hf
  unfold rowTwo at HF
  have hNA := fun w => ivlno_any _ _ rA rB w
  rw [decide_eq_false hn] at hNA
  have NA := Lib.hid hNA
  have hNC := fun w => ivlno_any _ _ rC rD w
  rw [decide_eq_true hn2] at hNC
  have NC := Lib.hid hNC
  clear hNA hn hNC hn2 hf
  generalize tkLo a b = A at *
  generalize tkHi a b = Bh at *
  generalize tkLo c d = C at *
  generalize tkHi c d = D at *
  clear vA vC
  go_enter Try.func13, Try.ntmps13
  go_wp2_with fail
  have A0_0 : At (World.alloc (World.alloc (World.alloc w (.cells #[.float .f64 (a), .float .f64 (b)] 27)) (.cells #[.float .f64 (c), .float .f64 (d)] 27)) (.cells #[.float .f64 (0), .float .f64 (0)] 27)) (w.heap.size) 0 (.float .f64 (a)) := ⟨by simp [go_sem], by simp [go_sem]⟩
  have A0_1 : At (World.alloc (World.alloc (World.alloc w (.cells #[.float .f64 (a), .float .f64 (b)] 27)) (.cells #[.float .f64 (c), .float .f64 (d)] 27)) (.cells #[.float .f64 (0), .float .f64 (0)] 27)) (w.heap.size) 1 (.float .f64 (b)) := ⟨by simp [go_sem], by simp [go_sem]⟩
  have A1_0 : At (World.alloc (World.alloc (World.alloc w (.cells #[.float .f64 (a), .float .f64 (b)] 27)) (.cells #[.float .f64 (c), .float .f64 (d)] 27)) (.cells #[.float .f64 (0), .float .f64 (0)] 27)) (w.heap.size + 1) 0 (.float .f64 (c)) := ⟨by simp [go_sem], by simp [go_sem]⟩
  have A1_1 : At (World.alloc (World.alloc (World.alloc w (.cells #[.float .f64 (a), .float .f64 (b)] 27)) (.cells #[.float .f64 (c), .float .f64 (d)] 27)) (.cells #[.float .f64 (0), .float .f64 (0)] 27)) (w.heap.size + 1) 1 (.float .f64 (d)) := ⟨by simp [go_sem], by simp [go_sem]⟩
  have A2_0 : At (World.alloc (World.alloc (World.alloc w (.cells #[.float .f64 (a), .float .f64 (b)] 27)) (.cells #[.float .f64 (c), .float .f64 (d)] 27)) (.cells #[.float .f64 (0), .float .f64 (0)] 27)) (w.heap.size + 1 + 1) 0 (.float .f64 (0)) := ⟨by simp [go_sem], by simp [go_sem]⟩
  have A2_1 : At (World.alloc (World.alloc (World.alloc w (.cells #[.float .f64 (a), .float .f64 (b)] 27)) (.cells #[.float .f64 (c), .float .f64 (d)] 27)) (.cells #[.float .f64 (0), .float .f64 (0)] 27)) (w.heap.size + 1 + 1) 1 (.float .f64 (0)) := ⟨by simp [go_sem], by simp [go_sem]⟩
  have k0_0 := cell_regrown A0_0.1
  have k0_1 := cell_regrown A0_1.1
  have k1_0 := cell_regrown A1_0.1
  have k1_1 := cell_regrown A1_1.1
  have k2_0 := cell_regrown A2_0.1
  have k2_1 := cell_regrown A2_1.1
  refine wp_region_below_tail 4 (by kernel_rfl) (by kernel_rfl) ?_
  simp only [List.take_succ_cons, List.take_zero, List.drop_succ_cons, List.drop_zero]
  repeat (go_big_quiet_step ((first | (with_reducible exact Calls.regrown_of (TA.out _)) | (with_reducible exact Calls.regrown_of (TC.out _)))))
  refine wpQuiet_nil (fun w1 hbw1 => ?_)
  clear k0_0 k0_1 k1_0 k1_1 k2_0 k2_1
  replace A0_0 := At.below A0_0 hbw1
  replace A0_1 := At.below A0_1 hbw1
  replace A1_0 := At.below A1_0 hbw1
  replace A1_1 := At.below A1_1 hbw1
  replace A2_0 := At.below A2_0 hbw1
  replace A2_1 := At.below A2_1 hbw1
  have B := below_alloc (below_alloc (below_alloc (hbw1)))
  clear hbw1
  have F0_0 := A0_0.1; have G0_0 := A0_0.2
  have F0_1 := A0_1.1; have G0_1 := A0_1.2
  have F1_0 := A1_0.1; have G1_0 := A1_0.2
  have F1_1 := A1_1.1; have G1_1 := A1_1.2
  have F2_0 := A2_0.1; have G2_0 := A2_0.2
  have F2_1 := A2_1.1; have G2_1 := A2_1.2
  have Z0 := A0_0.lt
  have Z1 := A1_0.lt
  have Z2 := A2_0.lt
  iterate 6 go_step
  clear F0_0 G0_0 F0_1 G0_1 F1_0 G1_0 F1_1 G1_1 F2_0 G2_0 F2_1 G2_1 Z0 Z1 Z2
  replace A0_0 := At.set_same A0_0 (.float .f64 (ofKey (A)))
  replace A0_1 := At.set_off (f' := 0) A0_1 (by decide) (.float .f64 (ofKey (A)))
  replace A1_0 := At.set_blk (b' := w.heap.size) (f' := 0) A1_0 (by first | omega | (have := B.size; omega)) (.float .f64 (ofKey (A)))
  replace A1_1 := At.set_blk (b' := w.heap.size) (f' := 0) A1_1 (by first | omega | (have := B.size; omega)) (.float .f64 (ofKey (A)))
  replace A2_0 := At.set_blk (b' := w.heap.size) (f' := 0) A2_0 (by first | omega | (have := B.size; omega)) (.float .f64 (ofKey (A)))
  replace A2_1 := At.set_blk (b' := w.heap.size) (f' := 0) A2_1 (by first | omega | (have := B.size; omega)) (.float .f64 (ofKey (A)))
  replace A0_0 := At.set_off (f' := 1) A0_0 (by decide) (.float .f64 (ofKey (Bh)))
  replace A0_1 := At.set_same A0_1 (.float .f64 (ofKey (Bh)))
  replace A1_0 := At.set_blk (b' := w.heap.size) (f' := 1) A1_0 (by first | omega | (have := B.size; omega)) (.float .f64 (ofKey (Bh)))
  replace A1_1 := At.set_blk (b' := w.heap.size) (f' := 1) A1_1 (by first | omega | (have := B.size; omega)) (.float .f64 (ofKey (Bh)))
  replace A2_0 := At.set_blk (b' := w.heap.size) (f' := 1) A2_0 (by first | omega | (have := B.size; omega)) (.float .f64 (ofKey (Bh)))
  replace A2_1 := At.set_blk (b' := w.heap.size) (f' := 1) A2_1 (by first | omega | (have := B.size; omega)) (.float .f64 (ofKey (Bh)))
  replace A0_0 := At.set_blk (b' := w.heap.size + 1) (f' := 0) A0_0 (by first | omega | (have := B.size; omega)) (.float .f64 (ofKey (C)))
  replace A0_1 := At.set_blk (b' := w.heap.size + 1) (f' := 0) A0_1 (by first | omega | (have := B.size; omega)) (.float .f64 (ofKey (C)))
  replace A1_0 := At.set_same A1_0 (.float .f64 (ofKey (C)))
  replace A1_1 := At.set_off (f' := 0) A1_1 (by decide) (.float .f64 (ofKey (C)))
  replace A2_0 := At.set_blk (b' := w.heap.size + 1) (f' := 0) A2_0 (by first | omega | (have := B.size; omega)) (.float .f64 (ofKey (C)))
  replace A2_1 := At.set_blk (b' := w.heap.size + 1) (f' := 0) A2_1 (by first | omega | (have := B.size; omega)) (.float .f64 (ofKey (C)))
  replace A0_0 := At.set_blk (b' := w.heap.size + 1) (f' := 1) A0_0 (by first | omega | (have := B.size; omega)) (.float .f64 (ofKey (D)))
  replace A0_1 := At.set_blk (b' := w.heap.size + 1) (f' := 1) A0_1 (by first | omega | (have := B.size; omega)) (.float .f64 (ofKey (D)))
  replace A1_0 := At.set_off (f' := 1) A1_0 (by decide) (.float .f64 (ofKey (D)))
  replace A1_1 := At.set_same A1_1 (.float .f64 (ofKey (D)))
  replace A2_0 := At.set_blk (b' := w.heap.size + 1) (f' := 1) A2_0 (by first | omega | (have := B.size; omega)) (.float .f64 (ofKey (D)))
  replace A2_1 := At.set_blk (b' := w.heap.size + 1) (f' := 1) A2_1 (by first | omega | (have := B.size; omega)) (.float .f64 (ofKey (D)))
  have B' : Below w.heap.size w (World.setCell (World.setCell (World.setCell (World.setCell w1 ⟨w.heap.size, 0, none⟩ (.float .f64 (ofKey (A)))) ⟨w.heap.size, 1, none⟩ (.float .f64 (ofKey (Bh)))) ⟨w.heap.size + 1, 0, none⟩ (.float .f64 (ofKey (C)))) ⟨w.heap.size + 1, 1, none⟩ (.float .f64 (ofKey (D)))) := (Below.setCell (Below.setCell (Below.setCell (Below.setCell B (p := ⟨w.heap.size, 0, none⟩) (by first | (show w.heap.size ≤ w.heap.size; omega) | (have := B.size; show w.heap.size ≤ w.heap.size; omega)) (.float .f64 (ofKey (A)))) (p := ⟨w.heap.size, 1, none⟩) (by first | (show w.heap.size ≤ w.heap.size; omega) | (have := B.size; show w.heap.size ≤ w.heap.size; omega)) (.float .f64 (ofKey (Bh)))) (p := ⟨w.heap.size + 1, 0, none⟩) (by first | (show w.heap.size ≤ w.heap.size + 1; omega) | (have := B.size; show w.heap.size ≤ w.heap.size + 1; omega)) (.float .f64 (ofKey (C)))) (p := ⟨w.heap.size + 1, 1, none⟩) (by first | (show w.heap.size ≤ w.heap.size + 1; omega) | (have := B.size; show w.heap.size ≤ w.heap.size + 1; omega)) (.float .f64 (ofKey (D))))
  clear B
  obtain ⟨w2, hw2⟩ : ∃ w2, w2 = (World.setCell (World.setCell (World.setCell (World.setCell w1 ⟨w.heap.size, 0, none⟩ (.float .f64 (ofKey (A)))) ⟨w.heap.size, 1, none⟩ (.float .f64 (ofKey (Bh)))) ⟨w.heap.size + 1, 0, none⟩ (.float .f64 (ofKey (C)))) ⟨w.heap.size + 1, 1, none⟩ (.float .f64 (ofKey (D)))) := ⟨_, rfl⟩
  rw [← hw2]
  replace A0_0 := At.of A0_0 hw2
  replace A0_1 := At.of A0_1 hw2
  replace A1_0 := At.of A1_0 hw2
  replace A1_1 := At.of A1_1 hw2
  replace A2_0 := At.of A2_0 hw2
  replace A2_1 := At.of A2_1 hw2
  have B := below_of B' hw2
  clear B' hw2
  have F0_0 := A0_0.1; have G0_0 := A0_0.2
  have F0_1 := A0_1.1; have G0_1 := A0_1.2
  have F1_0 := A1_0.1; have G1_0 := A1_0.2
  have F1_1 := A1_1.1; have G1_1 := A1_1.2
  have F2_0 := A2_0.1; have G2_0 := A2_0.2
  have F2_1 := A2_1.1; have G2_1 := A2_1.2
  have Z0 := A0_0.lt
  have Z1 := A1_0.lt
  have Z2 := A2_0.lt
  go_wp2_with fail
  refine (HF.out _).mono ?_
  rintro e w3 ⟨rfl, hbw3⟩
  clear F0_0 G0_0 F0_1 G0_1 F1_0 G1_0 F1_1 G1_1 F2_0 G2_0 F2_1 G2_1 Z0 Z1 Z2
  replace A0_0 := At.below (A0_0) hbw3
  replace A0_1 := At.below (A0_1) hbw3
  replace A1_0 := At.below (A1_0) hbw3
  replace A1_1 := At.below (A1_1) hbw3
  replace A2_0 := At.below (A2_0) hbw3
  replace A2_1 := At.below (A2_1) hbw3
  replace B := below_step B B.size (hbw3)
  clear hbw3
  have F0_0 := A0_0.1; have G0_0 := A0_0.2
  have F0_1 := A0_1.1; have G0_1 := A0_1.2
  have F1_0 := A1_0.1; have G1_0 := A1_0.2
  have F1_1 := A1_1.1; have G1_1 := A1_1.2
  have F2_0 := A2_0.1; have G2_0 := A2_0.2
  have F2_1 := A2_1.1; have G2_1 := A2_1.2
  have Z0 := A0_0.lt
  have Z1 := A1_0.lt
  have Z2 := A2_0.lt
  go_wp2_with fail
  clear F0_0 G0_0 F0_1 G0_1 F1_0 G1_0 F1_1 G1_1 F2_0 G2_0 F2_1 G2_1 Z0 Z1 Z2
  have n1 : w.heap.size < w3.heap.size := by simpa only [World.size_setCell] using At.lt A0_0
  have n2 : w.heap.size + 1 < w3.heap.size := by simpa only [World.size_setCell] using At.lt A1_0
  have n3 : w.heap.size + 1 + 1 < w3.heap.size := by simpa only [World.size_setCell] using At.lt A2_0
  replace A0_0 : At (World.alloc w3 (.cells #[.nilFunc, .func (.func f) #[] #[]] 46)) _ _ _ := At.alloc (A0_0)
  replace A0_1 : At (World.alloc w3 (.cells #[.nilFunc, .func (.func f) #[] #[]] 46)) _ _ _ := At.alloc (A0_1)
  replace A1_0 : At (World.alloc w3 (.cells #[.nilFunc, .func (.func f) #[] #[]] 46)) _ _ _ := At.alloc (A1_0)
  replace A1_1 : At (World.alloc w3 (.cells #[.nilFunc, .func (.func f) #[] #[]] 46)) _ _ _ := At.alloc (A1_1)
  replace A2_0 : At (World.alloc w3 (.cells #[.nilFunc, .func (.func f) #[] #[]] 46)) _ _ _ := At.alloc (A2_0)
  replace A2_1 : At (World.alloc w3 (.cells #[.nilFunc, .func (.func f) #[] #[]] 46)) _ _ _ := At.alloc (A2_1)
  have A3_0 : At (World.alloc w3 (.cells #[.nilFunc, .func (.func f) #[] #[]] 46)) (w3.heap.size) 0 (.nilFunc) := ⟨by simp [go_sem], by simp [go_sem]⟩
  have A3_1 : At (World.alloc w3 (.cells #[.nilFunc, .func (.func f) #[] #[]] 46)) (w3.heap.size) 1 (.func (.func f) #[] #[]) := ⟨by simp [go_sem], by simp [go_sem]⟩
  have B' : Below w.heap.size w (World.alloc w3 (.cells #[.nilFunc, .func (.func f) #[] #[]] 46)) := (Below.alloc B (by first | exact B.size | (simp only [World.size_setCell, World.size_alloc]; have := B.size; omega)) _)
  clear B
  obtain ⟨w4, hw4⟩ : ∃ w4, w4 = (World.alloc w3 (.cells #[.nilFunc, .func (.func f) #[] #[]] 46)) := ⟨_, rfl⟩
  rw [← hw4]
  replace A0_0 := At.of A0_0 hw4
  replace A0_1 := At.of A0_1 hw4
  replace A1_0 := At.of A1_0 hw4
  replace A1_1 := At.of A1_1 hw4
  replace A2_0 := At.of A2_0 hw4
  replace A2_1 := At.of A2_1 hw4
  replace A3_0 := At.of A3_0 hw4
  replace A3_1 := At.of A3_1 hw4
  have B := below_of B' hw4
  clear B' hw4
  have F0_0 := A0_0.1; have G0_0 := A0_0.2
  have F0_1 := A0_1.1; have G0_1 := A0_1.2
  have F1_0 := A1_0.1; have G1_0 := A1_0.2
  have F1_1 := A1_1.1; have G1_1 := A1_1.2
  have F2_0 := A2_0.1; have G2_0 := A2_0.2
  have F2_1 := A2_1.1; have G2_1 := A2_1.2
  have F3_0 := A3_0.1; have G3_0 := A3_0.2
  have F3_1 := A3_1.1; have G3_1 := A3_1.2
  have Z0 := A0_0.lt
  have Z1 := A1_0.lt
  have Z2 := A2_0.lt
  have Z3 := A3_0.lt
  refine (NA.out _).mono ?_
  rintro e w5 ⟨rfl, hbw5⟩
  clear F0_0 G0_0 F0_1 G0_1 F1_0 G1_0 F1_1 G1_1 F2_0 G2_0 F2_1 G2_1 F3_0 G3_0 F3_1 G3_1 Z0 Z1 Z2 Z3
  replace A0_0 := At.below (A0_0) hbw5
  replace A0_1 := At.below (A0_1) hbw5
  replace A1_0 := At.below (A1_0) hbw5
  replace A1_1 := At.below (A1_1) hbw5
  replace A2_0 := At.below (A2_0) hbw5
  replace A2_1 := At.below (A2_1) hbw5
  replace A3_0 := At.below (A3_0) hbw5
  replace A3_1 := At.below (A3_1) hbw5
  replace B := below_step B B.size (hbw5)
  clear hbw5
  have F0_0 := A0_0.1; have G0_0 := A0_0.2
  have F0_1 := A0_1.1; have G0_1 := A0_1.2
  have F1_0 := A1_0.1; have G1_0 := A1_0.2
  have F1_1 := A1_1.1; have G1_1 := A1_1.2
  have F2_0 := A2_0.1; have G2_0 := A2_0.2
  have F2_1 := A2_1.1; have G2_1 := A2_1.2
  have F3_0 := A3_0.1; have G3_0 := A3_0.2
  have F3_1 := A3_1.1; have G3_1 := A3_1.2
  have Z0 := A0_0.lt
  have Z1 := A1_0.lt
  have Z2 := A2_0.lt
  have Z3 := A3_0.lt
  go_wp2_with fail
  refine (NC.out _).mono ?_
  rintro e w6 ⟨rfl, hbw6⟩
  clear F0_0 G0_0 F0_1 G0_1 F1_0 G1_0 F1_1 G1_1 F2_0 G2_0 F2_1 G2_1 F3_0 G3_0 F3_1 G3_1 Z0 Z1 Z2 Z3
  replace A0_0 := At.below (A0_0) hbw6
  replace A0_1 := At.below (A0_1) hbw6
  replace A1_0 := At.below (A1_0) hbw6
  replace A1_1 := At.below (A1_1) hbw6
  replace A2_0 := At.below (A2_0) hbw6
  replace A2_1 := At.below (A2_1) hbw6
  replace A3_0 := At.below (A3_0) hbw6
  replace A3_1 := At.below (A3_1) hbw6
  replace B := below_step B B.size (hbw6)
  clear hbw6
  have F0_0 := A0_0.1; have G0_0 := A0_0.2
  have F0_1 := A0_1.1; have G0_1 := A0_1.2
  have F1_0 := A1_0.1; have G1_0 := A1_0.2
  have F1_1 := A1_1.1; have G1_1 := A1_1.2
  have F2_0 := A2_0.1; have G2_0 := A2_0.2
  have F2_1 := A2_1.1; have G2_1 := A2_1.2
  have F3_0 := A3_0.1; have G3_0 := A3_0.2
  have F3_1 := A3_1.1; have G3_1 := A3_1.2
  have Z0 := A0_0.lt
  have Z1 := A1_0.lt
  have Z2 := A2_0.lt
  have Z3 := A3_0.lt
  go_wp2_with fail
  refine (ivlempty_any _).mono ?_
  rintro e w7 ⟨rfl, hbw7⟩
  clear F0_0 G0_0 F0_1 G0_1 F1_0 G1_0 F1_1 G1_1 F2_0 G2_0 F2_1 G2_1 F3_0 G3_0 F3_1 G3_1 Z0 Z1 Z2 Z3
  replace A0_0 := At.below (A0_0) hbw7
  replace A0_1 := At.below (A0_1) hbw7
  replace A1_0 := At.below (A1_0) hbw7
  replace A1_1 := At.below (A1_1) hbw7
  replace A2_0 := At.below (A2_0) hbw7
  replace A2_1 := At.below (A2_1) hbw7
  replace A3_0 := At.below (A3_0) hbw7
  replace A3_1 := At.below (A3_1) hbw7
  replace B := below_step B B.size (hbw7)
  clear hbw7
  have F0_0 := A0_0.1; have G0_0 := A0_0.2
  have F0_1 := A0_1.1; have G0_1 := A0_1.2
  have F1_0 := A1_0.1; have G1_0 := A1_0.2
  have F1_1 := A1_1.1; have G1_1 := A1_1.2
  have F2_0 := A2_0.1; have G2_0 := A2_0.2
  have F2_1 := A2_1.1; have G2_1 := A2_1.2
  have F3_0 := A3_0.1; have G3_0 := A3_0.2
  have F3_1 := A3_1.1; have G3_1 := A3_1.2
  have Z0 := A0_0.lt
  have Z1 := A1_0.lt
  have Z2 := A2_0.lt
  have Z3 := A3_0.lt
  go_wp2_with fail
  clear F0_0 G0_0 F0_1 G0_1 F1_0 G1_0 F1_1 G1_1 F2_0 G2_0 F2_1 G2_1 F3_0 G3_0 F3_1 G3_1 Z0 Z1 Z2 Z3
  replace A0_0 := At.set_blk (b' := w.heap.size + 1 + 1) (f' := 0) A0_0 (by first | omega | (have := B.size; omega)) (.float .f64 (ofKey (PI)))
  replace A0_1 := At.set_blk (b' := w.heap.size + 1 + 1) (f' := 0) A0_1 (by first | omega | (have := B.size; omega)) (.float .f64 (ofKey (PI)))
  replace A1_0 := At.set_blk (b' := w.heap.size + 1 + 1) (f' := 0) A1_0 (by first | omega | (have := B.size; omega)) (.float .f64 (ofKey (PI)))
  replace A1_1 := At.set_blk (b' := w.heap.size + 1 + 1) (f' := 0) A1_1 (by first | omega | (have := B.size; omega)) (.float .f64 (ofKey (PI)))
  replace A2_0 := At.set_same A2_0 (.float .f64 (ofKey (PI)))
  replace A2_1 := At.set_off (f' := 0) A2_1 (by decide) (.float .f64 (ofKey (PI)))
  replace A3_0 := At.set_blk (b' := w.heap.size + 1 + 1) (f' := 0) A3_0 (by first | omega | (have := B.size; omega)) (.float .f64 (ofKey (PI)))
  replace A3_1 := At.set_blk (b' := w.heap.size + 1 + 1) (f' := 0) A3_1 (by first | omega | (have := B.size; omega)) (.float .f64 (ofKey (PI)))
  replace A0_0 := At.set_blk (b' := w.heap.size + 1 + 1) (f' := 1) A0_0 (by first | omega | (have := B.size; omega)) (.float .f64 (ofKey (-PI)))
  replace A0_1 := At.set_blk (b' := w.heap.size + 1 + 1) (f' := 1) A0_1 (by first | omega | (have := B.size; omega)) (.float .f64 (ofKey (-PI)))
  replace A1_0 := At.set_blk (b' := w.heap.size + 1 + 1) (f' := 1) A1_0 (by first | omega | (have := B.size; omega)) (.float .f64 (ofKey (-PI)))
  replace A1_1 := At.set_blk (b' := w.heap.size + 1 + 1) (f' := 1) A1_1 (by first | omega | (have := B.size; omega)) (.float .f64 (ofKey (-PI)))
  replace A2_0 := At.set_off (f' := 1) A2_0 (by decide) (.float .f64 (ofKey (-PI)))
  replace A2_1 := At.set_same A2_1 (.float .f64 (ofKey (-PI)))
  replace A3_0 := At.set_blk (b' := w.heap.size + 1 + 1) (f' := 1) A3_0 (by first | omega | (have := B.size; omega)) (.float .f64 (ofKey (-PI)))
  replace A3_1 := At.set_blk (b' := w.heap.size + 1 + 1) (f' := 1) A3_1 (by first | omega | (have := B.size; omega)) (.float .f64 (ofKey (-PI)))
  have B' : Below w.heap.size w (World.setCell (World.setCell w7 ⟨w.heap.size + 1 + 1, 0, none⟩ (.float .f64 (ofKey (PI)))) ⟨w.heap.size + 1 + 1, 1, none⟩ (.float .f64 (ofKey (-PI)))) := (Below.setCell (Below.setCell B (p := ⟨w.heap.size + 1 + 1, 0, none⟩) (by first | (show w.heap.size ≤ w.heap.size + 1 + 1; omega) | (have := B.size; show w.heap.size ≤ w.heap.size + 1 + 1; omega)) (.float .f64 (ofKey (PI)))) (p := ⟨w.heap.size + 1 + 1, 1, none⟩) (by first | (show w.heap.size ≤ w.heap.size + 1 + 1; omega) | (have := B.size; show w.heap.size ≤ w.heap.size + 1 + 1; omega)) (.float .f64 (ofKey (-PI))))
  clear B
  obtain ⟨wz, hwz⟩ : ∃ wz, wz = (World.setCell (World.setCell w7 ⟨w.heap.size + 1 + 1, 0, none⟩ (.float .f64 (ofKey (PI)))) ⟨w.heap.size + 1 + 1, 1, none⟩ (.float .f64 (ofKey (-PI)))) := ⟨_, rfl⟩
  rw [← hwz]
  replace A0_0 := At.of A0_0 hwz
  replace A0_1 := At.of A0_1 hwz
  replace A1_0 := At.of A1_0 hwz
  replace A1_1 := At.of A1_1 hwz
  replace A2_0 := At.of A2_0 hwz
  replace A2_1 := At.of A2_1 hwz
  replace A3_0 := At.of A3_0 hwz
  replace A3_1 := At.of A3_1 hwz
  have B := below_of B' hwz
  clear B' hwz
  have F0_0 := A0_0.1; have G0_0 := A0_0.2
  have F0_1 := A0_1.1; have G0_1 := A0_1.2
  have F1_0 := A1_0.1; have G1_0 := A1_0.2
  have F1_1 := A1_1.1; have G1_1 := A1_1.2
  have F2_0 := A2_0.1; have G2_0 := A2_0.2
  have F2_1 := A2_1.1; have G2_1 := A2_1.2
  have F3_0 := A3_0.1; have G3_0 := A3_0.2
  have F3_1 := A3_1.1; have G3_1 := A3_1.2
  have Z0 := A0_0.lt
  have Z1 := A1_0.lt
  have Z2 := A2_0.lt
  have Z3 := A3_0.lt
  refine bodyPost_ret (v := .agg #[.float .f64 (ofKey (PI)), .float .f64 (ofKey (-PI))]) (by simp [results, Try.results13, go_sem, F2_0, F2_1]) rfl ⟨rfl, ?_⟩
  exact B

set_option maxHeartbeats 1000000 in
theorem apply_none (o : Int) (a b c d : Nat) (ha : Wd a) (hb : Wd b) (hc : Wd c) (hd : Wd d) (h : o < 0 ∨ 11 < o) (w : World) :
    Calls Try.prog 13 #[.int .i64 o, .agg #[.float .f64 (a), .float .f64 (b)], .agg #[.float .f64 (c), .float .f64 (d)]] w fun e w' => e = .returned (.agg #[.float .f64 (ofKey (PI)), .float .f64 (ofKey (-PI))]) ∧ Below w.heap.size w w' := by
  have vA := tk_iv a b
  have vC := tk_iv c d
  have rA := vA.1; have rB := vA.2.1; have rC := vC.1; have rD := vC.2.1
  have TA := Lib.hid (fun w => ivltake_any a b ha hb w)
  have TC := Lib.hid (fun w => ivltake_any c d hc hd w)
  have x1 := neq_one
  have x2 := neq_two
  have x3 := neq_one0
  have x4 := neq_two0
  have HF := Lib.hid (fun w => find_none o h w)
  clear h
  generalize tkLo a b = A at *
  generalize tkHi a b = Bh at *
  generalize tkLo c d = C at *
  generalize tkHi c d = D at *
  clear vA vC
  go_enter Try.func13, Try.ntmps13
  go_wp2_with fail
  have A0_0 : At (World.alloc (World.alloc (World.alloc w (.cells #[.float .f64 (a), .float .f64 (b)] 27)) (.cells #[.float .f64 (c), .float .f64 (d)] 27)) (.cells #[.float .f64 (0), .float .f64 (0)] 27)) (w.heap.size) 0 (.float .f64 (a)) := ⟨by simp [go_sem], by simp [go_sem]⟩
  have A0_1 : At (World.alloc (World.alloc (World.alloc w (.cells #[.float .f64 (a), .float .f64 (b)] 27)) (.cells #[.float .f64 (c), .float .f64 (d)] 27)) (.cells #[.float .f64 (0), .float .f64 (0)] 27)) (w.heap.size) 1 (.float .f64 (b)) := ⟨by simp [go_sem], by simp [go_sem]⟩
  have A1_0 : At (World.alloc (World.alloc (World.alloc w (.cells #[.float .f64 (a), .float .f64 (b)] 27)) (.cells #[.float .f64 (c), .float .f64 (d)] 27)) (.cells #[.float .f64 (0), .float .f64 (0)] 27)) (w.heap.size + 1) 0 (.float .f64 (c)) := ⟨by simp [go_sem], by simp [go_sem]⟩
  have A1_1 : At (World.alloc (World.alloc (World.alloc w (.cells #[.float .f64 (a), .float .f64 (b)] 27)) (.cells #[.float .f64 (c), .float .f64 (d)] 27)) (.cells #[.float .f64 (0), .float .f64 (0)] 27)) (w.heap.size + 1) 1 (.float .f64 (d)) := ⟨by simp [go_sem], by simp [go_sem]⟩
  have A2_0 : At (World.alloc (World.alloc (World.alloc w (.cells #[.float .f64 (a), .float .f64 (b)] 27)) (.cells #[.float .f64 (c), .float .f64 (d)] 27)) (.cells #[.float .f64 (0), .float .f64 (0)] 27)) (w.heap.size + 1 + 1) 0 (.float .f64 (0)) := ⟨by simp [go_sem], by simp [go_sem]⟩
  have A2_1 : At (World.alloc (World.alloc (World.alloc w (.cells #[.float .f64 (a), .float .f64 (b)] 27)) (.cells #[.float .f64 (c), .float .f64 (d)] 27)) (.cells #[.float .f64 (0), .float .f64 (0)] 27)) (w.heap.size + 1 + 1) 1 (.float .f64 (0)) := ⟨by simp [go_sem], by simp [go_sem]⟩
  have k0_0 := cell_regrown A0_0.1
  have k0_1 := cell_regrown A0_1.1
  have k1_0 := cell_regrown A1_0.1
  have k1_1 := cell_regrown A1_1.1
  have k2_0 := cell_regrown A2_0.1
  have k2_1 := cell_regrown A2_1.1
  refine wp_region_below_tail 4 (by kernel_rfl) (by kernel_rfl) ?_
  simp only [List.take_succ_cons, List.take_zero, List.drop_succ_cons, List.drop_zero]
  repeat (go_big_quiet_step ((first | (with_reducible exact Calls.regrown_of (TA.out _)) | (with_reducible exact Calls.regrown_of (TC.out _)))))
  refine wpQuiet_nil (fun w1 hbw1 => ?_)
  clear k0_0 k0_1 k1_0 k1_1 k2_0 k2_1
  replace A0_0 := At.below A0_0 hbw1
  replace A0_1 := At.below A0_1 hbw1
  replace A1_0 := At.below A1_0 hbw1
  replace A1_1 := At.below A1_1 hbw1
  replace A2_0 := At.below A2_0 hbw1
  replace A2_1 := At.below A2_1 hbw1
  have B := below_alloc (below_alloc (below_alloc (hbw1)))
  clear hbw1
  have F0_0 := A0_0.1; have G0_0 := A0_0.2
  have F0_1 := A0_1.1; have G0_1 := A0_1.2
  have F1_0 := A1_0.1; have G1_0 := A1_0.2
  have F1_1 := A1_1.1; have G1_1 := A1_1.2
  have F2_0 := A2_0.1; have G2_0 := A2_0.2
  have F2_1 := A2_1.1; have G2_1 := A2_1.2
  have Z0 := A0_0.lt
  have Z1 := A1_0.lt
  have Z2 := A2_0.lt
  iterate 6 go_step
  clear F0_0 G0_0 F0_1 G0_1 F1_0 G1_0 F1_1 G1_1 F2_0 G2_0 F2_1 G2_1 Z0 Z1 Z2
  replace A0_0 := At.set_same A0_0 (.float .f64 (ofKey (A)))
  replace A0_1 := At.set_off (f' := 0) A0_1 (by decide) (.float .f64 (ofKey (A)))
  replace A1_0 := At.set_blk (b' := w.heap.size) (f' := 0) A1_0 (by first | omega | (have := B.size; omega)) (.float .f64 (ofKey (A)))
  replace A1_1 := At.set_blk (b' := w.heap.size) (f' := 0) A1_1 (by first | omega | (have := B.size; omega)) (.float .f64 (ofKey (A)))
  replace A2_0 := At.set_blk (b' := w.heap.size) (f' := 0) A2_0 (by first | omega | (have := B.size; omega)) (.float .f64 (ofKey (A)))
  replace A2_1 := At.set_blk (b' := w.heap.size) (f' := 0) A2_1 (by first | omega | (have := B.size; omega)) (.float .f64 (ofKey (A)))
  replace A0_0 := At.set_off (f' := 1) A0_0 (by decide) (.float .f64 (ofKey (Bh)))
  replace A0_1 := At.set_same A0_1 (.float .f64 (ofKey (Bh)))
  replace A1_0 := At.set_blk (b' := w.heap.size) (f' := 1) A1_0 (by first | omega | (have := B.size; omega)) (.float .f64 (ofKey (Bh)))
  replace A1_1 := At.set_blk (b' := w.heap.size) (f' := 1) A1_1 (by first | omega | (have := B.size; omega)) (.float .f64 (ofKey (Bh)))
  replace A2_0 := At.set_blk (b' := w.heap.size) (f' := 1) A2_0 (by first | omega | (have := B.size; omega)) (.float .f64 (ofKey (Bh)))
  replace A2_1 := At.set_blk (b' := w.heap.size) (f' := 1) A2_1 (by first | omega | (have := B.size; omega)) (.float .f64 (ofKey (Bh)))
  replace A0_0 := At.set_blk (b' := w.heap.size + 1) (f' := 0) A0_0 (by first | omega | (have := B.size; omega)) (.float .f64 (ofKey (C)))
  replace A0_1 := At.set_blk (b' := w.heap.size + 1) (f' := 0) A0_1 (by first | omega | (have := B.size; omega)) (.float .f64 (ofKey (C)))
  replace A1_0 := At.set_same A1_0 (.float .f64 (ofKey (C)))
  replace A1_1 := At.set_off (f' := 0) A1_1 (by decide) (.float .f64 (ofKey (C)))
  replace A2_0 := At.set_blk (b' := w.heap.size + 1) (f' := 0) A2_0 (by first | omega | (have := B.size; omega)) (.float .f64 (ofKey (C)))
  replace A2_1 := At.set_blk (b' := w.heap.size + 1) (f' := 0) A2_1 (by first | omega | (have := B.size; omega)) (.float .f64 (ofKey (C)))
  replace A0_0 := At.set_blk (b' := w.heap.size + 1) (f' := 1) A0_0 (by first | omega | (have := B.size; omega)) (.float .f64 (ofKey (D)))
  replace A0_1 := At.set_blk (b' := w.heap.size + 1) (f' := 1) A0_1 (by first | omega | (have := B.size; omega)) (.float .f64 (ofKey (D)))
  replace A1_0 := At.set_off (f' := 1) A1_0 (by decide) (.float .f64 (ofKey (D)))
  replace A1_1 := At.set_same A1_1 (.float .f64 (ofKey (D)))
  replace A2_0 := At.set_blk (b' := w.heap.size + 1) (f' := 1) A2_0 (by first | omega | (have := B.size; omega)) (.float .f64 (ofKey (D)))
  replace A2_1 := At.set_blk (b' := w.heap.size + 1) (f' := 1) A2_1 (by first | omega | (have := B.size; omega)) (.float .f64 (ofKey (D)))
  have B' : Below w.heap.size w (World.setCell (World.setCell (World.setCell (World.setCell w1 ⟨w.heap.size, 0, none⟩ (.float .f64 (ofKey (A)))) ⟨w.heap.size, 1, none⟩ (.float .f64 (ofKey (Bh)))) ⟨w.heap.size + 1, 0, none⟩ (.float .f64 (ofKey (C)))) ⟨w.heap.size + 1, 1, none⟩ (.float .f64 (ofKey (D)))) := (Below.setCell (Below.setCell (Below.setCell (Below.setCell B (p := ⟨w.heap.size, 0, none⟩) (by first | (show w.heap.size ≤ w.heap.size; omega) | (have := B.size; show w.heap.size ≤ w.heap.size; omega)) (.float .f64 (ofKey (A)))) (p := ⟨w.heap.size, 1, none⟩) (by first | (show w.heap.size ≤ w.heap.size; omega) | (have := B.size; show w.heap.size ≤ w.heap.size; omega)) (.float .f64 (ofKey (Bh)))) (p := ⟨w.heap.size + 1, 0, none⟩) (by first | (show w.heap.size ≤ w.heap.size + 1; omega) | (have := B.size; show w.heap.size ≤ w.heap.size + 1; omega)) (.float .f64 (ofKey (C)))) (p := ⟨w.heap.size + 1, 1, none⟩) (by first | (show w.heap.size ≤ w.heap.size + 1; omega) | (have := B.size; show w.heap.size ≤ w.heap.size + 1; omega)) (.float .f64 (ofKey (D))))
  clear B
  obtain ⟨w2, hw2⟩ : ∃ w2, w2 = (World.setCell (World.setCell (World.setCell (World.setCell w1 ⟨w.heap.size, 0, none⟩ (.float .f64 (ofKey (A)))) ⟨w.heap.size, 1, none⟩ (.float .f64 (ofKey (Bh)))) ⟨w.heap.size + 1, 0, none⟩ (.float .f64 (ofKey (C)))) ⟨w.heap.size + 1, 1, none⟩ (.float .f64 (ofKey (D)))) := ⟨_, rfl⟩
  rw [← hw2]
  replace A0_0 := At.of A0_0 hw2
  replace A0_1 := At.of A0_1 hw2
  replace A1_0 := At.of A1_0 hw2
  replace A1_1 := At.of A1_1 hw2
  replace A2_0 := At.of A2_0 hw2
  replace A2_1 := At.of A2_1 hw2
  have B := below_of B' hw2
  clear B' hw2
  have F0_0 := A0_0.1; have G0_0 := A0_0.2
  have F0_1 := A0_1.1; have G0_1 := A0_1.2
  have F1_0 := A1_0.1; have G1_0 := A1_0.2
  have F1_1 := A1_1.1; have G1_1 := A1_1.2
  have F2_0 := A2_0.1; have G2_0 := A2_0.2
  have F2_1 := A2_1.1; have G2_1 := A2_1.2
  have Z0 := A0_0.lt
  have Z1 := A1_0.lt
  have Z2 := A2_0.lt
  go_wp2_with fail
  refine (HF.out _).mono ?_
  rintro e w3 ⟨rfl, hbw3⟩
  clear F0_0 G0_0 F0_1 G0_1 F1_0 G1_0 F1_1 G1_1 F2_0 G2_0 F2_1 G2_1 Z0 Z1 Z2
  replace A0_0 := At.below (A0_0) hbw3
  replace A0_1 := At.below (A0_1) hbw3
  replace A1_0 := At.below (A1_0) hbw3
  replace A1_1 := At.below (A1_1) hbw3
  replace A2_0 := At.below (A2_0) hbw3
  replace A2_1 := At.below (A2_1) hbw3
  replace B := below_step B B.size (hbw3)
  clear hbw3
  have F0_0 := A0_0.1; have G0_0 := A0_0.2
  have F0_1 := A0_1.1; have G0_1 := A0_1.2
  have F1_0 := A1_0.1; have G1_0 := A1_0.2
  have F1_1 := A1_1.1; have G1_1 := A1_1.2
  have F2_0 := A2_0.1; have G2_0 := A2_0.2
  have F2_1 := A2_1.1; have G2_1 := A2_1.2
  have Z0 := A0_0.lt
  have Z1 := A1_0.lt
  have Z2 := A2_0.lt
  go_wp2_with fail
  clear F0_0 G0_0 F0_1 G0_1 F1_0 G1_0 F1_1 G1_1 F2_0 G2_0 F2_1 G2_1 Z0 Z1 Z2
  have n1 : w.heap.size < w3.heap.size := by simpa only [World.size_setCell] using At.lt A0_0
  have n2 : w.heap.size + 1 < w3.heap.size := by simpa only [World.size_setCell] using At.lt A1_0
  have n3 : w.heap.size + 1 + 1 < w3.heap.size := by simpa only [World.size_setCell] using At.lt A2_0
  replace A0_0 : At (World.alloc w3 (.cells #[.nilFunc, .nilFunc] 46)) _ _ _ := At.alloc (A0_0)
  replace A0_1 : At (World.alloc w3 (.cells #[.nilFunc, .nilFunc] 46)) _ _ _ := At.alloc (A0_1)
  replace A1_0 : At (World.alloc w3 (.cells #[.nilFunc, .nilFunc] 46)) _ _ _ := At.alloc (A1_0)
  replace A1_1 : At (World.alloc w3 (.cells #[.nilFunc, .nilFunc] 46)) _ _ _ := At.alloc (A1_1)
  replace A2_0 : At (World.alloc w3 (.cells #[.nilFunc, .nilFunc] 46)) _ _ _ := At.alloc (A2_0)
  replace A2_1 : At (World.alloc w3 (.cells #[.nilFunc, .nilFunc] 46)) _ _ _ := At.alloc (A2_1)
  have A3_0 : At (World.alloc w3 (.cells #[.nilFunc, .nilFunc] 46)) (w3.heap.size) 0 (.nilFunc) := ⟨by simp [go_sem], by simp [go_sem]⟩
  have A3_1 : At (World.alloc w3 (.cells #[.nilFunc, .nilFunc] 46)) (w3.heap.size) 1 (.nilFunc) := ⟨by simp [go_sem], by simp [go_sem]⟩
  have B' : Below w.heap.size w (World.alloc w3 (.cells #[.nilFunc, .nilFunc] 46)) := (Below.alloc B (by first | exact B.size | (simp only [World.size_setCell, World.size_alloc]; have := B.size; omega)) _)
  clear B
  obtain ⟨w4, hw4⟩ : ∃ w4, w4 = (World.alloc w3 (.cells #[.nilFunc, .nilFunc] 46)) := ⟨_, rfl⟩
  rw [← hw4]
  replace A0_0 := At.of A0_0 hw4
  replace A0_1 := At.of A0_1 hw4
  replace A1_0 := At.of A1_0 hw4
  replace A1_1 := At.of A1_1 hw4
  replace A2_0 := At.of A2_0 hw4
  replace A2_1 := At.of A2_1 hw4
  replace A3_0 := At.of A3_0 hw4
  replace A3_1 := At.of A3_1 hw4
  have B := below_of B' hw4
  clear B' hw4
  have F0_0 := A0_0.1; have G0_0 := A0_0.2
  have F0_1 := A0_1.1; have G0_1 := A0_1.2
  have F1_0 := A1_0.1; have G1_0 := A1_0.2
  have F1_1 := A1_1.1; have G1_1 := A1_1.2
  have F2_0 := A2_0.1; have G2_0 := A2_0.2
  have F2_1 := A2_1.1; have G2_1 := A2_1.2
  have F3_0 := A3_0.1; have G3_0 := A3_0.2
  have F3_1 := A3_1.1; have G3_1 := A3_1.2
  have Z0 := A0_0.lt
  have Z1 := A1_0.lt
  have Z2 := A2_0.lt
  have Z3 := A3_0.lt
  refine (ivlempty_any _).mono ?_
  rintro e w5 ⟨rfl, hbw5⟩
  clear F0_0 G0_0 F0_1 G0_1 F1_0 G1_0 F1_1 G1_1 F2_0 G2_0 F2_1 G2_1 F3_0 G3_0 F3_1 G3_1 Z0 Z1 Z2 Z3
  replace A0_0 := At.below (A0_0) hbw5
  replace A0_1 := At.below (A0_1) hbw5
  replace A1_0 := At.below (A1_0) hbw5
  replace A1_1 := At.below (A1_1) hbw5
  replace A2_0 := At.below (A2_0) hbw5
  replace A2_1 := At.below (A2_1) hbw5
  replace A3_0 := At.below (A3_0) hbw5
  replace A3_1 := At.below (A3_1) hbw5
  replace B := below_step B B.size (hbw5)
  clear hbw5
  have F0_0 := A0_0.1; have G0_0 := A0_0.2
  have F0_1 := A0_1.1; have G0_1 := A0_1.2
  have F1_0 := A1_0.1; have G1_0 := A1_0.2
  have F1_1 := A1_1.1; have G1_1 := A1_1.2
  have F2_0 := A2_0.1; have G2_0 := A2_0.2
  have F2_1 := A2_1.1; have G2_1 := A2_1.2
  have F3_0 := A3_0.1; have G3_0 := A3_0.2
  have F3_1 := A3_1.1; have G3_1 := A3_1.2
  have Z0 := A0_0.lt
  have Z1 := A1_0.lt
  have Z2 := A2_0.lt
  have Z3 := A3_0.lt
  go_wp2_with fail
  clear F0_0 G0_0 F0_1 G0_1 F1_0 G1_0 F1_1 G1_1 F2_0 G2_0 F2_1 G2_1 F3_0 G3_0 F3_1 G3_1 Z0 Z1 Z2 Z3
  replace A0_0 := At.set_blk (b' := w.heap.size + 1 + 1) (f' := 0) A0_0 (by first | omega | (have := B.size; omega)) (.float .f64 (ofKey (PI)))
  replace A0_1 := At.set_blk (b' := w.heap.size + 1 + 1) (f' := 0) A0_1 (by first | omega | (have := B.size; omega)) (.float .f64 (ofKey (PI)))
  replace A1_0 := At.set_blk (b' := w.heap.size + 1 + 1) (f' := 0) A1_0 (by first | omega | (have := B.size; omega)) (.float .f64 (ofKey (PI)))
  replace A1_1 := At.set_blk (b' := w.heap.size + 1 + 1) (f' := 0) A1_1 (by first | omega | (have := B.size; omega)) (.float .f64 (ofKey (PI)))
  replace A2_0 := At.set_same A2_0 (.float .f64 (ofKey (PI)))
  replace A2_1 := At.set_off (f' := 0) A2_1 (by decide) (.float .f64 (ofKey (PI)))
  replace A3_0 := At.set_blk (b' := w.heap.size + 1 + 1) (f' := 0) A3_0 (by first | omega | (have := B.size; omega)) (.float .f64 (ofKey (PI)))
  replace A3_1 := At.set_blk (b' := w.heap.size + 1 + 1) (f' := 0) A3_1 (by first | omega | (have := B.size; omega)) (.float .f64 (ofKey (PI)))
  replace A0_0 := At.set_blk (b' := w.heap.size + 1 + 1) (f' := 1) A0_0 (by first | omega | (have := B.size; omega)) (.float .f64 (ofKey (-PI)))
  replace A0_1 := At.set_blk (b' := w.heap.size + 1 + 1) (f' := 1) A0_1 (by first | omega | (have := B.size; omega)) (.float .f64 (ofKey (-PI)))
  replace A1_0 := At.set_blk (b' := w.heap.size + 1 + 1) (f' := 1) A1_0 (by first | omega | (have := B.size; omega)) (.float .f64 (ofKey (-PI)))
  replace A1_1 := At.set_blk (b' := w.heap.size + 1 + 1) (f' := 1) A1_1 (by first | omega | (have := B.size; omega)) (.float .f64 (ofKey (-PI)))
  replace A2_0 := At.set_off (f' := 1) A2_0 (by decide) (.float .f64 (ofKey (-PI)))
  replace A2_1 := At.set_same A2_1 (.float .f64 (ofKey (-PI)))
  replace A3_0 := At.set_blk (b' := w.heap.size + 1 + 1) (f' := 1) A3_0 (by first | omega | (have := B.size; omega)) (.float .f64 (ofKey (-PI)))
  replace A3_1 := At.set_blk (b' := w.heap.size + 1 + 1) (f' := 1) A3_1 (by first | omega | (have := B.size; omega)) (.float .f64 (ofKey (-PI)))
  have B' : Below w.heap.size w (World.setCell (World.setCell w5 ⟨w.heap.size + 1 + 1, 0, none⟩ (.float .f64 (ofKey (PI)))) ⟨w.heap.size + 1 + 1, 1, none⟩ (.float .f64 (ofKey (-PI)))) := (Below.setCell (Below.setCell B (p := ⟨w.heap.size + 1 + 1, 0, none⟩) (by first | (show w.heap.size ≤ w.heap.size + 1 + 1; omega) | (have := B.size; show w.heap.size ≤ w.heap.size + 1 + 1; omega)) (.float .f64 (ofKey (PI)))) (p := ⟨w.heap.size + 1 + 1, 1, none⟩) (by first | (show w.heap.size ≤ w.heap.size + 1 + 1; omega) | (have := B.size; show w.heap.size ≤ w.heap.size + 1 + 1; omega)) (.float .f64 (ofKey (-PI))))
  clear B
  obtain ⟨wz, hwz⟩ : ∃ wz, wz = (World.setCell (World.setCell w5 ⟨w.heap.size + 1 + 1, 0, none⟩ (.float .f64 (ofKey (PI)))) ⟨w.heap.size + 1 + 1, 1, none⟩ (.float .f64 (ofKey (-PI)))) := ⟨_, rfl⟩
  rw [← hwz]
  replace A0_0 := At.of A0_0 hwz
  replace A0_1 := At.of A0_1 hwz
  replace A1_0 := At.of A1_0 hwz
  replace A1_1 := At.of A1_1 hwz
  replace A2_0 := At.of A2_0 hwz
  replace A2_1 := At.of A2_1 hwz
  replace A3_0 := At.of A3_0 hwz
  replace A3_1 := At.of A3_1 hwz
  have B := below_of B' hwz
  clear B' hwz
  have F0_0 := A0_0.1; have G0_0 := A0_0.2
  have F0_1 := A0_1.1; have G0_1 := A0_1.2
  have F1_0 := A1_0.1; have G1_0 := A1_0.2
  have F1_1 := A1_1.1; have G1_1 := A1_1.2
  have F2_0 := A2_0.1; have G2_0 := A2_0.2
  have F2_1 := A2_1.1; have G2_1 := A2_1.2
  have F3_0 := A3_0.1; have G3_0 := A3_0.2
  have F3_1 := A3_1.1; have G3_1 := A3_1.2
  have Z0 := A0_0.lt
  have Z1 := A1_0.lt
  have Z2 := A2_0.lt
  have Z3 := A3_0.lt
  refine bodyPost_ret (v := .agg #[.float .f64 (ofKey (PI)), .float .f64 (ofKey (-PI))]) (by simp [results, Try.results13, go_sem, F2_0, F2_1]) rfl ⟨rfl, ?_⟩
  exact B


end Go.Proofs.Yteephgpefhodnab
