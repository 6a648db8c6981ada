/- Package ivl: sums and products of intervals. -/
import Derived.Test.YteephgpefhodnabC1
import Derived.Test.YteephgpefhodnabR2
import Derived.LoopTactic
namespace Go.Proofs.Yteephgpefhodnab
open Go.RowKit Go.Sort Go.Fl
set_option linter.unusedSimpArgs false
set_option linter.unusedVariables false

theorem ivladd_any (a b c d : Int) (ha : Rg a) (hb : Rg b) (hc : Rg c) (hd : Rg d) (h1 : EndOk 6 a c) (h2 : EndOk 6 b d) (w : World) :
    Calls Try.prog 36 #[.agg #[.float .f64 (ofKey (a)), .float .f64 (ofKey (b))], .agg #[.float .f64 (ofKey (c)), .float .f64 (ofKey (d))]] w fun e w' => e = .returned (.agg #[.float .f64 (ofKey (endK 6 a c false)), .float .f64 (ofKey (endK 6 b d true))]) ∧ Below w.heap.size w w' := by
  have EA := Lib.hid (fun w => ivlend_any 6 a c false ha hc h1 w)
  have EB := Lib.hid (fun w => ivlend_any 6 b d true hb hd h2 w)
  clear h1 h2
  go_enter Try.func36, Try.ntmps36
  go_wp2_with fail
  have A0_0 : At (World.alloc (World.alloc (World.alloc w (.cells #[.float .f64 (ofKey (a)), .float .f64 (ofKey (b))] 27)) (.cells #[.float .f64 (ofKey (c)), .float .f64 (ofKey (d))] 27)) (.cells #[.float .f64 (0), .float .f64 (0)] 27)) (w.heap.size) 0 (.float .f64 (ofKey (a))) := ⟨by simp [go_sem], by simp [go_sem]⟩
  have A0_1 : At (World.alloc (World.alloc (World.alloc w (.cells #[.float .f64 (ofKey (a)), .float .f64 (ofKey (b))] 27)) (.cells #[.float .f64 (ofKey (c)), .float .f64 (ofKey (d))] 27)) (.cells #[.float .f64 (0), .float .f64 (0)] 27)) (w.heap.size) 1 (.float .f64 (ofKey (b))) := ⟨by simp [go_sem], by simp [go_sem]⟩
  have A1_0 : At (World.alloc (World.alloc (World.alloc w (.cells #[.float .f64 (ofKey (a)), .float .f64 (ofKey (b))] 27)) (.cells #[.float .f64 (ofKey (c)), .float .f64 (ofKey (d))] 27)) (.cells #[.float .f64 (0), .float .f64 (0)] 27)) (w.heap.size + 1) 0 (.float .f64 (ofKey (c))) := ⟨by simp [go_sem], by simp [go_sem]⟩
  have A1_1 : At (World.alloc (World.alloc (World.alloc w (.cells #[.float .f64 (ofKey (a)), .float .f64 (ofKey (b))] 27)) (.cells #[.float .f64 (ofKey (c)), .float .f64 (ofKey (d))] 27)) (.cells #[.float .f64 (0), .float .f64 (0)] 27)) (w.heap.size + 1) 1 (.float .f64 (ofKey (d))) := ⟨by simp [go_sem], by simp [go_sem]⟩
  have A2_0 : At (World.alloc (World.alloc (World.alloc w (.cells #[.float .f64 (ofKey (a)), .float .f64 (ofKey (b))] 27)) (.cells #[.float .f64 (ofKey (c)), .float .f64 (ofKey (d))] 27)) (.cells #[.float .f64 (0), .float .f64 (0)] 27)) (w.heap.size + 1 + 1) 0 (.float .f64 (0)) := ⟨by simp [go_sem], by simp [go_sem]⟩
  have A2_1 : At (World.alloc (World.alloc (World.alloc w (.cells #[.float .f64 (ofKey (a)), .float .f64 (ofKey (b))] 27)) (.cells #[.float .f64 (ofKey (c)), .float .f64 (ofKey (d))] 27)) (.cells #[.float .f64 (0), .float .f64 (0)] 27)) (w.heap.size + 1 + 1) 1 (.float .f64 (0)) := ⟨by simp [go_sem], by simp [go_sem]⟩
  have k0_0 := cell_regrown A0_0.1
  have k0_1 := cell_regrown A0_1.1
  have k1_0 := cell_regrown A1_0.1
  have k1_1 := cell_regrown A1_1.1
  have k2_0 := cell_regrown A2_0.1
  have k2_1 := cell_regrown A2_1.1
  refine wp_region_below_tail 11 (by kernel_rfl) (by kernel_rfl) ?_
  simp only [List.take_succ_cons, List.take_zero, List.drop_succ_cons, List.drop_zero]
  repeat (go_big_quiet_step ((first | (with_reducible exact Calls.regrown_of (EA.out _)) | (with_reducible exact Calls.regrown_of (EB.out _)))))
  refine wpQuiet_nil (fun w1 hbw1 => ?_)
  clear k0_0 k0_1 k1_0 k1_1 k2_0 k2_1
  replace A0_0 := At.below A0_0 hbw1
  replace A0_1 := At.below A0_1 hbw1
  replace A1_0 := At.below A1_0 hbw1
  replace A1_1 := At.below A1_1 hbw1
  replace A2_0 := At.below A2_0 hbw1
  replace A2_1 := At.below A2_1 hbw1
  have B := below_alloc (below_alloc (below_alloc (hbw1)))
  clear hbw1
  have F0_0 := A0_0.1; have G0_0 := A0_0.2
  have F0_1 := A0_1.1; have G0_1 := A0_1.2
  have F1_0 := A1_0.1; have G1_0 := A1_0.2
  have F1_1 := A1_1.1; have G1_1 := A1_1.2
  have F2_0 := A2_0.1; have G2_0 := A2_0.2
  have F2_1 := A2_1.1; have G2_1 := A2_1.2
  have Z0 := A0_0.lt
  have Z1 := A1_0.lt
  have Z2 := A2_0.lt
  go_wp2_with fail
  refine bodyPost_ret (v := .agg #[.float .f64 (ofKey (endK 6 a c false)), .float .f64 (ofKey (endK 6 b d true))]) (by simp [results, Try.results36, go_sem, F2_0, F2_1, G2_0, G2_1]) rfl ⟨rfl, ?_⟩
  go_grown

theorem index_0 (x y : Nat) (w : World) : (Instr.index 56 (.agg #[.float .f64 x, .float .f64 y]) (.int .i64 0)).run Try.prog w = .ok (.float .f64 x) w := by
  kernel_rfl
theorem index_1 (x y : Nat) (w : World) : (Instr.index 56 (.agg #[.float .f64 x, .float .f64 y]) (.int .i64 1)).run Try.prog w = .ok (.float .f64 y) w := by
  kernel_rfl

noncomputable def loN (o a b c d : Int) : Nat → Int
  | 0 => PI
  | n + 1 => min (loN o a b c d n) (endK o (if n < 2 then a else b) (if n % 2 = 0 then c else d) false)
noncomputable def hiN (o a b c d : Int) : Nat → Int
  | 0 => -PI
  | n + 1 => max (hiN o a b c d n) (endK o (if n < 2 then a else b) (if n % 2 = 0 then c else d) true)
theorem loN_rg (o a b c d : Int) (ha : Rg a) (hb : Rg b) (n : Nat) : Rg (loN o a b c d n) := by
  induction n with
  | zero => exact Rg_PI
  | succ n ih => exact rg_min ih (endK_rg _ _ _ _ (by split <;> assumption))
theorem hiN_rg (o a b c d : Int) (ha : Rg a) (hb : Rg b) (n : Nat) : Rg (hiN o a b c d n) := by
  induction n with
  | zero => exact Rg_MI
  | succ n ih => exact rg_max ih (endK_rg _ _ _ _ (by split <;> assumption))

set_option maxHeartbeats 4000000 in
theorem ends_any (o a b c d : Int) (ha : Rg a) (hb : Rg b) (hc : Rg c) (hd : Rg d) (hok : ∀ x y, (x = a ∨ x = b) → (y = c ∨ y = d) → EndOk o x y) (w : World) :
    Calls Try.prog 38 #[.int .i64 o, .agg #[.float .f64 (ofKey (a)), .float .f64 (ofKey (b))], .agg #[.float .f64 (ofKey (c)), .float .f64 (ofKey (d))]] w fun e w' => e = .returned (.agg #[.float .f64 (ofKey (loN o a b c d 4)), .float .f64 (ofKey (hiN o a b c d 4))]) ∧ Below w.heap.size w w' := by
  have ce1 := fun w => ivlend_any o a c false ha hc (hok a c (by omega) (by omega)) w
  have re1 := endK_rg o a c false ha
  have rL1 := loN_rg o a b c d ha hb 1
  have mL1 : min (PI) (endK o a c false) = loN o a b c d 1 := rfl
  have cE1 := fun w => ivlend_any o a c true ha hc (hok a c (by omega) (by omega)) w
  have rE1 := endK_rg o a c true ha
  have rH1 := hiN_rg o a b c d ha hb 1
  have mH1 : max (-PI) (endK o a c true) = hiN o a b c d 1 := rfl
  have ce2 := fun w => ivlend_any o a d false ha hd (hok a d (by omega) (by omega)) w
  have re2 := endK_rg o a d false ha
  have rL2 := loN_rg o a b c d ha hb 2
  have mL2 : min (loN o a b c d 1) (endK o a d false) = loN o a b c d 2 := rfl
  have cE2 := fun w => ivlend_any o a d true ha hd (hok a d (by omega) (by omega)) w
  have rE2 := endK_rg o a d true ha
  have rH2 := hiN_rg o a b c d ha hb 2
  have mH2 : max (hiN o a b c d 1) (endK o a d true) = hiN o a b c d 2 := rfl
  have ce3 := fun w => ivlend_any o b c false hb hc (hok b c (by omega) (by omega)) w
  have re3 := endK_rg o b c false hb
  have rL3 := loN_rg o a b c d ha hb 3
  have mL3 : min (loN o a b c d 2) (endK o b c false) = loN o a b c d 3 := rfl
  have cE3 := fun w => ivlend_any o b c true hb hc (hok b c (by omega) (by omega)) w
  have rE3 := endK_rg o b c true hb
  have rH3 := hiN_rg o a b c d ha hb 3
  have mH3 : max (hiN o a b c d 2) (endK o b c true) = hiN o a b c d 3 := rfl
  have ce4 := fun w => ivlend_any o b d false hb hd (hok b d (by omega) (by omega)) w
  have re4 := endK_rg o b d false hb
  have rL4 := loN_rg o a b c d ha hb 4
  have mL4 : min (loN o a b c d 3) (endK o b d false) = loN o a b c d 4 := rfl
  have cE4 := fun w => ivlend_any o b d true hb hd (hok b d (by omega) (by omega)) w
  have rE4 := endK_rg o b d true hb
  have rH4 := hiN_rg o a b c d ha hb 4
  have mH4 : max (hiN o a b c d 3) (endK o b d true) = hiN o a b c d 4 := rfl
  generalize loN o a b c d 1 = L1 at *
  generalize endK o a c false = e1 at *
  generalize hiN o a b c d 1 = H1 at *
  generalize endK o a c true = E1 at *
  generalize loN o a b c d 2 = L2 at *
  generalize endK o a d false = e2 at *
  generalize hiN o a b c d 2 = H2 at *
  generalize endK o a d true = E2 at *
  generalize loN o a b c d 3 = L3 at *
  generalize endK o b c false = e3 at *
  generalize hiN o a b c d 3 = H3 at *
  generalize endK o b c true = E3 at *
  generalize loN o a b c d 4 = L4 at *
  generalize endK o b d false = e4 at *
  generalize hiN o a b c d 4 = H4 at *
  generalize endK o b d true = E4 at *
  have ix0 := index_0
  have ix1 := index_1
  have Ce1 := Lib.hid ce1
  clear ce1
  have CE1 := Lib.hid cE1
  clear cE1
  have Ce2 := Lib.hid ce2
  clear ce2
  have CE2 := Lib.hid cE2
  clear cE2
  have Ce3 := Lib.hid ce3
  clear ce3
  have CE3 := Lib.hid cE3
  clear cE3
  have Ce4 := Lib.hid ce4
  clear ce4
  have CE4 := Lib.hid cE4
  clear cE4
  clear hok
  go_enter Try.func38, Try.ntmps38
  go_wp2_with fail
  refine (ivlempty_any _).mono ?_
  rintro e w1 ⟨rfl, hbw1⟩
  have A0_0 : At (World.alloc (World.alloc (World.alloc w (.cells #[.float .f64 (ofKey (a)), .float .f64 (ofKey (b))] 27)) (.cells #[.float .f64 (ofKey (c)), .float .f64 (ofKey (d))] 27)) (.cells #[.float .f64 (0), .float .f64 (0)] 27)) (w.heap.size) 0 (.float .f64 (ofKey (a))) := ⟨by simp [go_sem], by simp [go_sem]⟩
  have A0_1 : At (World.alloc (World.alloc (World.alloc w (.cells #[.float .f64 (ofKey (a)), .float .f64 (ofKey (b))] 27)) (.cells #[.float .f64 (ofKey (c)), .float .f64 (ofKey (d))] 27)) (.cells #[.float .f64 (0), .float .f64 (0)] 27)) (w.heap.size) 1 (.float .f64 (ofKey (b))) := ⟨by simp [go_sem], by simp [go_sem]⟩
  have A1_0 : At (World.alloc (World.alloc (World.alloc w (.cells #[.float .f64 (ofKey (a)), .float .f64 (ofKey (b))] 27)) (.cells #[.float .f64 (ofKey (c)), .float .f64 (ofKey (d))] 27)) (.cells #[.float .f64 (0), .float .f64 (0)] 27)) (w.heap.size + 1) 0 (.float .f64 (ofKey (c))) := ⟨by simp [go_sem], by simp [go_sem]⟩
  have A1_1 : At (World.alloc (World.alloc (World.alloc w (.cells #[.float .f64 (ofKey (a)), .float .f64 (ofKey (b))] 27)) (.cells #[.float .f64 (ofKey (c)), .float .f64 (ofKey (d))] 27)) (.cells #[.float .f64 (0), .float .f64 (0)] 27)) (w.heap.size + 1) 1 (.float .f64 (ofKey (d))) := ⟨by simp [go_sem], by simp [go_sem]⟩
  have A2_0 : At (World.alloc (World.alloc (World.alloc w (.cells #[.float .f64 (ofKey (a)), .float .f64 (ofKey (b))] 27)) (.cells #[.float .f64 (ofKey (c)), .float .f64 (ofKey (d))] 27)) (.cells #[.float .f64 (0), .float .f64 (0)] 27)) (w.heap.size + 1 + 1) 0 (.float .f64 (0)) := ⟨by simp [go_sem], by simp [go_sem]⟩
  have A2_1 : At (World.alloc (World.alloc (World.alloc w (.cells #[.float .f64 (ofKey (a)), .float .f64 (ofKey (b))] 27)) (.cells #[.float .f64 (ofKey (c)), .float .f64 (ofKey (d))] 27)) (.cells #[.float .f64 (0), .float .f64 (0)] 27)) (w.heap.size + 1 + 1) 1 (.float .f64 (0)) := ⟨by simp [go_sem], by simp [go_sem]⟩
  replace A0_0 := At.below (A0_0) hbw1
  replace A0_1 := At.below (A0_1) hbw1
  replace A1_0 := At.below (A1_0) hbw1
  replace A1_1 := At.below (A1_1) hbw1
  replace A2_0 := At.below (A2_0) hbw1
  replace A2_1 := At.below (A2_1) hbw1
  have B := below_alloc (below_alloc (below_alloc (hbw1)))
  clear hbw1
  have F0_0 := A0_0.1; have G0_0 := A0_0.2
  have F0_1 := A0_1.1; have G0_1 := A0_1.2
  have F1_0 := A1_0.1; have G1_0 := A1_0.2
  have F1_1 := A1_1.1; have G1_1 := A1_1.2
  have F2_0 := A2_0.1; have G2_0 := A2_0.2
  have F2_1 := A2_1.1; have G2_1 := A2_1.2
  have Z0 := A0_0.lt
  have Z1 := A1_0.lt
  have Z2 := A2_0.lt
  go_wp2_with fail
  clear F0_0 G0_0 F0_1 G0_1 F1_0 G1_0 F1_1 G1_1 F2_0 G2_0 F2_1 G2_1 Z0 Z1 Z2
  have n1 : w.heap.size < w1.heap.size := by simpa only [World.size_setCell] using At.lt A0_0
  have n2 : w.heap.size + 1 < w1.heap.size := by simpa only [World.size_setCell] using At.lt A1_0
  have n3 : w.heap.size + 1 + 1 < w1.heap.size := by simpa only [World.size_setCell] using At.lt A2_0
  replace A0_0 : At (World.alloc w1 (.cells #[.float .f64 (ofKey (PI)), .float .f64 (ofKey (-PI))] 27)) _ _ _ := At.alloc (A0_0)
  replace A0_1 : At (World.alloc w1 (.cells #[.float .f64 (ofKey (PI)), .float .f64 (ofKey (-PI))] 27)) _ _ _ := At.alloc (A0_1)
  replace A1_0 : At (World.alloc w1 (.cells #[.float .f64 (ofKey (PI)), .float .f64 (ofKey (-PI))] 27)) _ _ _ := At.alloc (A1_0)
  replace A1_1 : At (World.alloc w1 (.cells #[.float .f64 (ofKey (PI)), .float .f64 (ofKey (-PI))] 27)) _ _ _ := At.alloc (A1_1)
  replace A2_0 : At (World.alloc w1 (.cells #[.float .f64 (ofKey (PI)), .float .f64 (ofKey (-PI))] 27)) _ _ _ := At.alloc (A2_0)
  replace A2_1 : At (World.alloc w1 (.cells #[.float .f64 (ofKey (PI)), .float .f64 (ofKey (-PI))] 27)) _ _ _ := At.alloc (A2_1)
  have A3_0 : At (World.alloc w1 (.cells #[.float .f64 (ofKey (PI)), .float .f64 (ofKey (-PI))] 27)) (w1.heap.size) 0 (.float .f64 (ofKey (PI))) := ⟨by simp [go_sem], by simp [go_sem]⟩
  have A3_1 : At (World.alloc w1 (.cells #[.float .f64 (ofKey (PI)), .float .f64 (ofKey (-PI))] 27)) (w1.heap.size) 1 (.float .f64 (ofKey (-PI))) := ⟨by simp [go_sem], by simp [go_sem]⟩
  have B' : Below w.heap.size w (World.alloc w1 (.cells #[.float .f64 (ofKey (PI)), .float .f64 (ofKey (-PI))] 27)) := (Below.alloc B (by first | exact B.size | (simp only [World.size_setCell, World.size_alloc]; have := B.size; omega)) _)
  clear B
  obtain ⟨w2, hw2⟩ : ∃ w2, w2 = (World.alloc w1 (.cells #[.float .f64 (ofKey (PI)), .float .f64 (ofKey (-PI))] 27)) := ⟨_, rfl⟩
  rw [← hw2]
  replace A0_0 := At.of A0_0 hw2
  replace A0_1 := At.of A0_1 hw2
  replace A1_0 := At.of A1_0 hw2
  replace A1_1 := At.of A1_1 hw2
  replace A2_0 := At.of A2_0 hw2
  replace A2_1 := At.of A2_1 hw2
  replace A3_0 := At.of A3_0 hw2
  replace A3_1 := At.of A3_1 hw2
  have B := below_of B' hw2
  clear B' hw2
  have F0_0 := A0_0.1; have G0_0 := A0_0.2
  have F0_1 := A0_1.1; have G0_1 := A0_1.2
  have F1_0 := A1_0.1; have G1_0 := A1_0.2
  have F1_1 := A1_1.1; have G1_1 := A1_1.2
  have F2_0 := A2_0.1; have G2_0 := A2_0.2
  have F2_1 := A2_1.1; have G2_1 := A2_1.2
  have F3_0 := A3_0.1; have G3_0 := A3_0.2
  have F3_1 := A3_1.1; have G3_1 := A3_1.2
  have Z0 := A0_0.lt
  have Z1 := A1_0.lt
  have Z2 := A2_0.lt
  have Z3 := A3_0.lt
  refine wp_rounds 3 ?_
  refine (show Code.wp _ _ (Exit.then (Rounds _ _ _ 2) _) _ _ from ?_)
  generalize hRo : Rounds _ _ _ 2 = Ro
  have HRo := Lib.hid hRo
  clear hRo
  go_wp2_with fail
  refine wp_rounds 3 ?_
  refine (show Code.wp _ _ (Exit.then (Rounds _ _ _ 2) _) _ _ from ?_)
  generalize hRi : Rounds _ _ _ 2 = Ri
  have HRi := Lib.hid hRi
  clear hRi
  go_wp2_with fail
  have k0_0 := cell_regrown A0_0.1
  have k0_1 := cell_regrown A0_1.1
  have k1_0 := cell_regrown A1_0.1
  have k1_1 := cell_regrown A1_1.1
  have k2_0 := cell_regrown A2_0.1
  have k2_1 := cell_regrown A2_1.1
  have k3_0 := cell_regrown A3_0.1
  have k3_1 := cell_regrown A3_1.1
  refine wp_region_below_tail 8 (by kernel_rfl) (by kernel_rfl) ?_
  simp only [List.take_succ_cons, List.take_zero, List.drop_succ_cons, List.drop_zero]
  repeat (go_big_quiet_step ((with_reducible exact Calls.regrown_of (Ce1.out _))))
  refine wpQuiet_nil (fun w3 hbw3 => ?_)
  clear k0_0 k0_1 k1_0 k1_1 k2_0 k2_1 k3_0 k3_1
  clear F0_0 G0_0 F0_1 G0_1 F1_0 G1_0 F1_1 G1_1 F2_0 G2_0 F2_1 G2_1 F3_0 G3_0 F3_1 G3_1 Z0 Z1 Z2 Z3
  replace A0_0 := At.below (A0_0) hbw3
  replace A0_1 := At.below (A0_1) hbw3
  replace A1_0 := At.below (A1_0) hbw3
  replace A1_1 := At.below (A1_1) hbw3
  replace A2_0 := At.below (A2_0) hbw3
  replace A2_1 := At.below (A2_1) hbw3
  replace A3_0 := At.below (A3_0) hbw3
  replace A3_1 := At.below (A3_1) hbw3
  replace B := below_step B B.size (hbw3)
  clear hbw3
  have F0_0 := A0_0.1; have G0_0 := A0_0.2
  have F0_1 := A0_1.1; have G0_1 := A0_1.2
  have F1_0 := A1_0.1; have G1_0 := A1_0.2
  have F1_1 := A1_1.1; have G1_1 := A1_1.2
  have F2_0 := A2_0.1; have G2_0 := A2_0.2
  have F2_1 := A2_1.1; have G2_1 := A2_1.2
  have F3_0 := A3_0.1; have G3_0 := A3_0.2
  have F3_1 := A3_1.1; have G3_1 := A3_1.2
  have Z0 := A0_0.lt
  have Z1 := A1_0.lt
  have Z2 := A2_0.lt
  have Z3 := A3_0.lt
  iterate 3 go_step
  clear F0_0 G0_0 F0_1 G0_1 F1_0 G1_0 F1_1 G1_1 F2_0 G2_0 F2_1 G2_1 F3_0 G3_0 F3_1 G3_1 Z0 Z1 Z2 Z3
  replace A0_0 := At.set_blk (b' := w1.heap.size) (f' := 0) A0_0 (by first | omega | (have := B.size; omega)) (.float .f64 (ofKey (L1)))
  replace A0_1 := At.set_blk (b' := w1.heap.size) (f' := 0) A0_1 (by first | omega | (have := B.size; omega)) (.float .f64 (ofKey (L1)))
  replace A1_0 := At.set_blk (b' := w1.heap.size) (f' := 0) A1_0 (by first | omega | (have := B.size; omega)) (.float .f64 (ofKey (L1)))
  replace A1_1 := At.set_blk (b' := w1.heap.size) (f' := 0) A1_1 (by first | omega | (have := B.size; omega)) (.float .f64 (ofKey (L1)))
  replace A2_0 := At.set_blk (b' := w1.heap.size) (f' := 0) A2_0 (by first | omega | (have := B.size; omega)) (.float .f64 (ofKey (L1)))
  replace A2_1 := At.set_blk (b' := w1.heap.size) (f' := 0) A2_1 (by first | omega | (have := B.size; omega)) (.float .f64 (ofKey (L1)))
  replace A3_0 := At.set_same A3_0 (.float .f64 (ofKey (L1)))
  replace A3_1 := At.set_off (f' := 0) A3_1 (by decide) (.float .f64 (ofKey (L1)))
  have B' : Below w.heap.size w (World.setCell w3 ⟨w1.heap.size, 0, none⟩ (.float .f64 (ofKey (L1)))) := (Below.setCell B (p := ⟨w1.heap.size, 0, none⟩) (by first | (show w.heap.size ≤ w1.heap.size; omega) | (have := B.size; show w.heap.size ≤ w1.heap.size; omega)) (.float .f64 (ofKey (L1))))
  clear B
  obtain ⟨w4, hw4⟩ : ∃ w4, w4 = (World.setCell w3 ⟨w1.heap.size, 0, none⟩ (.float .f64 (ofKey (L1)))) := ⟨_, rfl⟩
  rw [← hw4]
  replace A0_0 := At.of A0_0 hw4
  replace A0_1 := At.of A0_1 hw4
  replace A1_0 := At.of A1_0 hw4
  replace A1_1 := At.of A1_1 hw4
  replace A2_0 := At.of A2_0 hw4
  replace A2_1 := At.of A2_1 hw4
  replace A3_0 := At.of A3_0 hw4
  replace A3_1 := At.of A3_1 hw4
  have B := below_of B' hw4
  clear B' hw4
  have F0_0 := A0_0.1; have G0_0 := A0_0.2
  have F0_1 := A0_1.1; have G0_1 := A0_1.2
  have F1_0 := A1_0.1; have G1_0 := A1_0.2
  have F1_1 := A1_1.1; have G1_1 := A1_1.2
  have F2_0 := A2_0.1; have G2_0 := A2_0.2
  have F2_1 := A2_1.1; have G2_1 := A2_1.2
  have F3_0 := A3_0.1; have G3_0 := A3_0.2
  have F3_1 := A3_1.1; have G3_1 := A3_1.2
  have Z0 := A0_0.lt
  have Z1 := A1_0.lt
  have Z2 := A2_0.lt
  have Z3 := A3_0.lt
  clear mL1 re1 Ce1
  go_wp2_with fail
  have k0_0 := cell_regrown A0_0.1
  have k0_1 := cell_regrown A0_1.1
  have k1_0 := cell_regrown A1_0.1
  have k1_1 := cell_regrown A1_1.1
  have k2_0 := cell_regrown A2_0.1
  have k2_1 := cell_regrown A2_1.1
  have k3_0 := cell_regrown A3_0.1
  have k3_1 := cell_regrown A3_1.1
  refine wp_region_below_tail 8 (by kernel_rfl) (by kernel_rfl) ?_
  simp only [List.take_succ_cons, List.take_zero, List.drop_succ_cons, List.drop_zero]
  repeat (go_big_quiet_step ((with_reducible exact Calls.regrown_of (CE1.out _))))
  refine wpQuiet_nil (fun w5 hbw5 => ?_)
  clear k0_0 k0_1 k1_0 k1_1 k2_0 k2_1 k3_0 k3_1
  clear F0_0 G0_0 F0_1 G0_1 F1_0 G1_0 F1_1 G1_1 F2_0 G2_0 F2_1 G2_1 F3_0 G3_0 F3_1 G3_1 Z0 Z1 Z2 Z3
  replace A0_0 := At.below (A0_0) hbw5
  replace A0_1 := At.below (A0_1) hbw5
  replace A1_0 := At.below (A1_0) hbw5
  replace A1_1 := At.below (A1_1) hbw5
  replace A2_0 := At.below (A2_0) hbw5
  replace A2_1 := At.below (A2_1) hbw5
  replace A3_0 := At.below (A3_0) hbw5
  replace A3_1 := At.below (A3_1) hbw5
  replace B := below_step B B.size (hbw5)
  clear hbw5
  have F0_0 := A0_0.1; have G0_0 := A0_0.2
  have F0_1 := A0_1.1; have G0_1 := A0_1.2
  have F1_0 := A1_0.1; have G1_0 := A1_0.2
  have F1_1 := A1_1.1; have G1_1 := A1_1.2
  have F2_0 := A2_0.1; have G2_0 := A2_0.2
  have F2_1 := A2_1.1; have G2_1 := A2_1.2
  have F3_0 := A3_0.1; have G3_0 := A3_0.2
  have F3_1 := A3_1.1; have G3_1 := A3_1.2
  have Z0 := A0_0.lt
  have Z1 := A1_0.lt
  have Z2 := A2_0.lt
  have Z3 := A3_0.lt
  iterate 3 go_step
  clear F0_0 G0_0 F0_1 G0_1 F1_0 G1_0 F1_1 G1_1 F2_0 G2_0 F2_1 G2_1 F3_0 G3_0 F3_1 G3_1 Z0 Z1 Z2 Z3
  replace A0_0 := At.set_blk (b' := w1.heap.size) (f' := 1) A0_0 (by first | omega | (have := B.size; omega)) (.float .f64 (ofKey (H1)))
  replace A0_1 := At.set_blk (b' := w1.heap.size) (f' := 1) A0_1 (by first | omega | (have := B.size; omega)) (.float .f64 (ofKey (H1)))
  replace A1_0 := At.set_blk (b' := w1.heap.size) (f' := 1) A1_0 (by first | omega | (have := B.size; omega)) (.float .f64 (ofKey (H1)))
  replace A1_1 := At.set_blk (b' := w1.heap.size) (f' := 1) A1_1 (by first | omega | (have := B.size; omega)) (.float .f64 (ofKey (H1)))
  replace A2_0 := At.set_blk (b' := w1.heap.size) (f' := 1) A2_0 (by first | omega | (have := B.size; omega)) (.float .f64 (ofKey (H1)))
  replace A2_1 := At.set_blk (b' := w1.heap.size) (f' := 1) A2_1 (by first | omega | (have := B.size; omega)) (.float .f64 (ofKey (H1)))
  replace A3_0 := At.set_off (f' := 1) A3_0 (by decide) (.float .f64 (ofKey (H1)))
  replace A3_1 := At.set_same A3_1 (.float .f64 (ofKey (H1)))
  have B' : Below w.heap.size w (World.setCell w5 ⟨w1.heap.size, 1, none⟩ (.float .f64 (ofKey (H1)))) := (Below.setCell B (p := ⟨w1.heap.size, 1, none⟩) (by first | (show w.heap.size ≤ w1.heap.size; omega) | (have := B.size; show w.heap.size ≤ w1.heap.size; omega)) (.float .f64 (ofKey (H1))))
  clear B
  obtain ⟨w6, hw6⟩ : ∃ w6, w6 = (World.setCell w5 ⟨w1.heap.size, 1, none⟩ (.float .f64 (ofKey (H1)))) := ⟨_, rfl⟩
  rw [← hw6]
  replace A0_0 := At.of A0_0 hw6
  replace A0_1 := At.of A0_1 hw6
  replace A1_0 := At.of A1_0 hw6
  replace A1_1 := At.of A1_1 hw6
  replace A2_0 := At.of A2_0 hw6
  replace A2_1 := At.of A2_1 hw6
  replace A3_0 := At.of A3_0 hw6
  replace A3_1 := At.of A3_1 hw6
  have B := below_of B' hw6
  clear B' hw6
  have F0_0 := A0_0.1; have G0_0 := A0_0.2
  have F0_1 := A0_1.1; have G0_1 := A0_1.2
  have F1_0 := A1_0.1; have G1_0 := A1_0.2
  have F1_1 := A1_1.1; have G1_1 := A1_1.2
  have F2_0 := A2_0.1; have G2_0 := A2_0.2
  have F2_1 := A2_1.1; have G2_1 := A2_1.2
  have F3_0 := A3_0.1; have G3_0 := A3_0.2
  have F3_1 := A3_1.1; have G3_1 := A3_1.2
  have Z0 := A0_0.lt
  have Z1 := A1_0.lt
  have Z2 := A2_0.lt
  have Z3 := A3_0.lt
  clear mH1 rE1 CE1
  go_wp2_with fail
  rw [← HRi.out]
  clear HRi
  refine (show Code.wp _ _ (Exit.then (Rounds _ _ _ 1) _) _ _ from ?_)
  generalize hRi : Rounds _ _ _ 1 = Ri
  have HRi := Lib.hid hRi
  clear hRi
  go_wp2_with fail
  have k0_0 := cell_regrown A0_0.1
  have k0_1 := cell_regrown A0_1.1
  have k1_0 := cell_regrown A1_0.1
  have k1_1 := cell_regrown A1_1.1
  have k2_0 := cell_regrown A2_0.1
  have k2_1 := cell_regrown A2_1.1
  have k3_0 := cell_regrown A3_0.1
  have k3_1 := cell_regrown A3_1.1
  refine wp_region_below_tail 8 (by kernel_rfl) (by kernel_rfl) ?_
  simp only [List.take_succ_cons, List.take_zero, List.drop_succ_cons, List.drop_zero]
  repeat (go_big_quiet_step ((with_reducible exact Calls.regrown_of (Ce2.out _))))
  refine wpQuiet_nil (fun w7 hbw7 => ?_)
  clear k0_0 k0_1 k1_0 k1_1 k2_0 k2_1 k3_0 k3_1
  clear F0_0 G0_0 F0_1 G0_1 F1_0 G1_0 F1_1 G1_1 F2_0 G2_0 F2_1 G2_1 F3_0 G3_0 F3_1 G3_1 Z0 Z1 Z2 Z3
  replace A0_0 := At.below (A0_0) hbw7
  replace A0_1 := At.below (A0_1) hbw7
  replace A1_0 := At.below (A1_0) hbw7
  replace A1_1 := At.below (A1_1) hbw7
  replace A2_0 := At.below (A2_0) hbw7
  replace A2_1 := At.below (A2_1) hbw7
  replace A3_0 := At.below (A3_0) hbw7
  replace A3_1 := At.below (A3_1) hbw7
  replace B := below_step B B.size (hbw7)
  clear hbw7
  have F0_0 := A0_0.1; have G0_0 := A0_0.2
  have F0_1 := A0_1.1; have G0_1 := A0_1.2
  have F1_0 := A1_0.1; have G1_0 := A1_0.2
  have F1_1 := A1_1.1; have G1_1 := A1_1.2
  have F2_0 := A2_0.1; have G2_0 := A2_0.2
  have F2_1 := A2_1.1; have G2_1 := A2_1.2
  have F3_0 := A3_0.1; have G3_0 := A3_0.2
  have F3_1 := A3_1.1; have G3_1 := A3_1.2
  have Z0 := A0_0.lt
  have Z1 := A1_0.lt
  have Z2 := A2_0.lt
  have Z3 := A3_0.lt
  iterate 3 go_step
  clear F0_0 G0_0 F0_1 G0_1 F1_0 G1_0 F1_1 G1_1 F2_0 G2_0 F2_1 G2_1 F3_0 G3_0 F3_1 G3_1 Z0 Z1 Z2 Z3
  replace A0_0 := At.set_blk (b' := w1.heap.size) (f' := 0) A0_0 (by first | omega | (have := B.size; omega)) (.float .f64 (ofKey (L2)))
  replace A0_1 := At.set_blk (b' := w1.heap.size) (f' := 0) A0_1 (by first | omega | (have := B.size; omega)) (.float .f64 (ofKey (L2)))
  replace A1_0 := At.set_blk (b' := w1.heap.size) (f' := 0) A1_0 (by first | omega | (have := B.size; omega)) (.float .f64 (ofKey (L2)))
  replace A1_1 := At.set_blk (b' := w1.heap.size) (f' := 0) A1_1 (by first | omega | (have := B.size; omega)) (.float .f64 (ofKey (L2)))
  replace A2_0 := At.set_blk (b' := w1.heap.size) (f' := 0) A2_0 (by first | omega | (have := B.size; omega)) (.float .f64 (ofKey (L2)))
  replace A2_1 := At.set_blk (b' := w1.heap.size) (f' := 0) A2_1 (by first | omega | (have := B.size; omega)) (.float .f64 (ofKey (L2)))
  replace A3_0 := At.set_same A3_0 (.float .f64 (ofKey (L2)))
  replace A3_1 := At.set_off (f' := 0) A3_1 (by decide) (.float .f64 (ofKey (L2)))
  have B' : Below w.heap.size w (World.setCell w7 ⟨w1.heap.size, 0, none⟩ (.float .f64 (ofKey (L2)))) := (Below.setCell B (p := ⟨w1.heap.size, 0, none⟩) (by first | (show w.heap.size ≤ w1.heap.size; omega) | (have := B.size; show w.heap.size ≤ w1.heap.size; omega)) (.float .f64 (ofKey (L2))))
  clear B
  obtain ⟨w8, hw8⟩ : ∃ w8, w8 = (World.setCell w7 ⟨w1.heap.size, 0, none⟩ (.float .f64 (ofKey (L2)))) := ⟨_, rfl⟩
  rw [← hw8]
  replace A0_0 := At.of A0_0 hw8
  replace A0_1 := At.of A0_1 hw8
  replace A1_0 := At.of A1_0 hw8
  replace A1_1 := At.of A1_1 hw8
  replace A2_0 := At.of A2_0 hw8
  replace A2_1 := At.of A2_1 hw8
  replace A3_0 := At.of A3_0 hw8
  replace A3_1 := At.of A3_1 hw8
  have B := below_of B' hw8
  clear B' hw8
  have F0_0 := A0_0.1; have G0_0 := A0_0.2
  have F0_1 := A0_1.1; have G0_1 := A0_1.2
  have F1_0 := A1_0.1; have G1_0 := A1_0.2
  have F1_1 := A1_1.1; have G1_1 := A1_1.2
  have F2_0 := A2_0.1; have G2_0 := A2_0.2
  have F2_1 := A2_1.1; have G2_1 := A2_1.2
  have F3_0 := A3_0.1; have G3_0 := A3_0.2
  have F3_1 := A3_1.1; have G3_1 := A3_1.2
  have Z0 := A0_0.lt
  have Z1 := A1_0.lt
  have Z2 := A2_0.lt
  have Z3 := A3_0.lt
  clear mL2 re2 Ce2
  go_wp2_with fail
  have k0_0 := cell_regrown A0_0.1
  have k0_1 := cell_regrown A0_1.1
  have k1_0 := cell_regrown A1_0.1
  have k1_1 := cell_regrown A1_1.1
  have k2_0 := cell_regrown A2_0.1
  have k2_1 := cell_regrown A2_1.1
  have k3_0 := cell_regrown A3_0.1
  have k3_1 := cell_regrown A3_1.1
  refine wp_region_below_tail 8 (by kernel_rfl) (by kernel_rfl) ?_
  simp only [List.take_succ_cons, List.take_zero, List.drop_succ_cons, List.drop_zero]
  repeat (go_big_quiet_step ((with_reducible exact Calls.regrown_of (CE2.out _))))
  refine wpQuiet_nil (fun w9 hbw9 => ?_)
  clear k0_0 k0_1 k1_0 k1_1 k2_0 k2_1 k3_0 k3_1
  clear F0_0 G0_0 F0_1 G0_1 F1_0 G1_0 F1_1 G1_1 F2_0 G2_0 F2_1 G2_1 F3_0 G3_0 F3_1 G3_1 Z0 Z1 Z2 Z3
  replace A0_0 := At.below (A0_0) hbw9
  replace A0_1 := At.below (A0_1) hbw9
  replace A1_0 := At.below (A1_0) hbw9
  replace A1_1 := At.below (A1_1) hbw9
  replace A2_0 := At.below (A2_0) hbw9
  replace A2_1 := At.below (A2_1) hbw9
  replace A3_0 := At.below (A3_0) hbw9
  replace A3_1 := At.below (A3_1) hbw9
  replace B := below_step B B.size (hbw9)
  clear hbw9
  have F0_0 := A0_0.1; have G0_0 := A0_0.2
  have F0_1 := A0_1.1; have G0_1 := A0_1.2
  have F1_0 := A1_0.1; have G1_0 := A1_0.2
  have F1_1 := A1_1.1; have G1_1 := A1_1.2
  have F2_0 := A2_0.1; have G2_0 := A2_0.2
  have F2_1 := A2_1.1; have G2_1 := A2_1.2
  have F3_0 := A3_0.1; have G3_0 := A3_0.2
  have F3_1 := A3_1.1; have G3_1 := A3_1.2
  have Z0 := A0_0.lt
  have Z1 := A1_0.lt
  have Z2 := A2_0.lt
  have Z3 := A3_0.lt
  iterate 3 go_step
  clear F0_0 G0_0 F0_1 G0_1 F1_0 G1_0 F1_1 G1_1 F2_0 G2_0 F2_1 G2_1 F3_0 G3_0 F3_1 G3_1 Z0 Z1 Z2 Z3
  replace A0_0 := At.set_blk (b' := w1.heap.size) (f' := 1) A0_0 (by first | omega | (have := B.size; omega)) (.float .f64 (ofKey (H2)))
  replace A0_1 := At.set_blk (b' := w1.heap.size) (f' := 1) A0_1 (by first | omega | (have := B.size; omega)) (.float .f64 (ofKey (H2)))
  replace A1_0 := At.set_blk (b' := w1.heap.size) (f' := 1) A1_0 (by first | omega | (have := B.size; omega)) (.float .f64 (ofKey (H2)))
  replace A1_1 := At.set_blk (b' := w1.heap.size) (f' := 1) A1_1 (by first | omega | (have := B.size; omega)) (.float .f64 (ofKey (H2)))
  replace A2_0 := At.set_blk (b' := w1.heap.size) (f' := 1) A2_0 (by first | omega | (have := B.size; omega)) (.float .f64 (ofKey (H2)))
  replace A2_1 := At.set_blk (b' := w1.heap.size) (f' := 1) A2_1 (by first | omega | (have := B.size; omega)) (.float .f64 (ofKey (H2)))
  replace A3_0 := At.set_off (f' := 1) A3_0 (by decide) (.float .f64 (ofKey (H2)))
  replace A3_1 := At.set_same A3_1 (.float .f64 (ofKey (H2)))
  have B' : Below w.heap.size w (World.setCell w9 ⟨w1.heap.size, 1, none⟩ (.float .f64 (ofKey (H2)))) := (Below.setCell B (p := ⟨w1.heap.size, 1, none⟩) (by first | (show w.heap.size ≤ w1.heap.size; omega) | (have := B.size; show w.heap.size ≤ w1.heap.size; omega)) (.float .f64 (ofKey (H2))))
  clear B
  obtain ⟨w10, hw10⟩ : ∃ w10, w10 = (World.setCell w9 ⟨w1.heap.size, 1, none⟩ (.float .f64 (ofKey (H2)))) := ⟨_, rfl⟩
  rw [← hw10]
  replace A0_0 := At.of A0_0 hw10
  replace A0_1 := At.of A0_1 hw10
  replace A1_0 := At.of A1_0 hw10
  replace A1_1 := At.of A1_1 hw10
  replace A2_0 := At.of A2_0 hw10
  replace A2_1 := At.of A2_1 hw10
  replace A3_0 := At.of A3_0 hw10
  replace A3_1 := At.of A3_1 hw10
  have B := below_of B' hw10
  clear B' hw10
  have F0_0 := A0_0.1; have G0_0 := A0_0.2
  have F0_1 := A0_1.1; have G0_1 := A0_1.2
  have F1_0 := A1_0.1; have G1_0 := A1_0.2
  have F1_1 := A1_1.1; have G1_1 := A1_1.2
  have F2_0 := A2_0.1; have G2_0 := A2_0.2
  have F2_1 := A2_1.1; have G2_1 := A2_1.2
  have F3_0 := A3_0.1; have G3_0 := A3_0.2
  have F3_1 := A3_1.1; have G3_1 := A3_1.2
  have Z0 := A0_0.lt
  have Z1 := A1_0.lt
  have Z2 := A2_0.lt
  have Z3 := A3_0.lt
  clear mH2 rE2 CE2
  go_wp2_with fail
  rw [← HRi.out]
  clear HRi
  refine (show Code.wp _ _ (Exit.then (Rounds _ _ _ 0) _) _ _ from ?_)
  generalize hRi : Rounds _ _ _ 0 = Ri
  have HRi := Lib.hid hRi
  clear hRi
  go_wp2_with fail
  rw [← HRo.out]
  clear HRo
  refine (show Code.wp _ _ (Exit.then (Rounds _ _ _ 1) _) _ _ from ?_)
  generalize hRo : Rounds _ _ _ 1 = Ro
  have HRo := Lib.hid hRo
  clear hRo
  go_wp2_with fail
  refine wp_rounds 3 ?_
  refine (show Code.wp _ _ (Exit.then (Rounds _ _ _ 2) _) _ _ from ?_)
  generalize hRi : Rounds _ _ _ 2 = Ri
  have HRi := Lib.hid hRi
  clear hRi
  go_wp2_with fail
  have k0_0 := cell_regrown A0_0.1
  have k0_1 := cell_regrown A0_1.1
  have k1_0 := cell_regrown A1_0.1
  have k1_1 := cell_regrown A1_1.1
  have k2_0 := cell_regrown A2_0.1
  have k2_1 := cell_regrown A2_1.1
  have k3_0 := cell_regrown A3_0.1
  have k3_1 := cell_regrown A3_1.1
  refine wp_region_below_tail 8 (by kernel_rfl) (by kernel_rfl) ?_
  simp only [List.take_succ_cons, List.take_zero, List.drop_succ_cons, List.drop_zero]
  repeat (go_big_quiet_step ((with_reducible exact Calls.regrown_of (Ce3.out _))))
  refine wpQuiet_nil (fun w11 hbw11 => ?_)
  clear k0_0 k0_1 k1_0 k1_1 k2_0 k2_1 k3_0 k3_1
  clear F0_0 G0_0 F0_1 G0_1 F1_0 G1_0 F1_1 G1_1 F2_0 G2_0 F2_1 G2_1 F3_0 G3_0 F3_1 G3_1 Z0 Z1 Z2 Z3
  replace A0_0 := At.below (A0_0) hbw11
  replace A0_1 := At.below (A0_1) hbw11
  replace A1_0 := At.below (A1_0) hbw11
  replace A1_1 := At.below (A1_1) hbw11
  replace A2_0 := At.below (A2_0) hbw11
  replace A2_1 := At.below (A2_1) hbw11
  replace A3_0 := At.below (A3_0) hbw11
  replace A3_1 := At.below (A3_1) hbw11
  replace B := below_step B B.size (hbw11)
  clear hbw11
  have F0_0 := A0_0.1; have G0_0 := A0_0.2
  have F0_1 := A0_1.1; have G0_1 := A0_1.2
  have F1_0 := A1_0.1; have G1_0 := A1_0.2
  have F1_1 := A1_1.1; have G1_1 := A1_1.2
  have F2_0 := A2_0.1; have G2_0 := A2_0.2
  have F2_1 := A2_1.1; have G2_1 := A2_1.2
  have F3_0 := A3_0.1; have G3_0 := A3_0.2
  have F3_1 := A3_1.1; have G3_1 := A3_1.2
  have Z0 := A0_0.lt
  have Z1 := A1_0.lt
  have Z2 := A2_0.lt
  have Z3 := A3_0.lt
  iterate 3 go_step
  clear F0_0 G0_0 F0_1 G0_1 F1_0 G1_0 F1_1 G1_1 F2_0 G2_0 F2_1 G2_1 F3_0 G3_0 F3_1 G3_1 Z0 Z1 Z2 Z3
  replace A0_0 := At.set_blk (b' := w1.heap.size) (f' := 0) A0_0 (by first | omega | (have := B.size; omega)) (.float .f64 (ofKey (L3)))
  replace A0_1 := At.set_blk (b' := w1.heap.size) (f' := 0) A0_1 (by first | omega | (have := B.size; omega)) (.float .f64 (ofKey (L3)))
  replace A1_0 := At.set_blk (b' := w1.heap.size) (f' := 0) A1_0 (by first | omega | (have := B.size; omega)) (.float .f64 (ofKey (L3)))
  replace A1_1 := At.set_blk (b' := w1.heap.size) (f' := 0) A1_1 (by first | omega | (have := B.size; omega)) (.float .f64 (ofKey (L3)))
  replace A2_0 := At.set_blk (b' := w1.heap.size) (f' := 0) A2_0 (by first | omega | (have := B.size; omega)) (.float .f64 (ofKey (L3)))
  replace A2_1 := At.set_blk (b' := w1.heap.size) (f' := 0) A2_1 (by first | omega | (have := B.size; omega)) (.float .f64 (ofKey (L3)))
  replace A3_0 := At.set_same A3_0 (.float .f64 (ofKey (L3)))
  replace A3_1 := At.set_off (f' := 0) A3_1 (by decide) (.float .f64 (ofKey (L3)))
  have B' : Below w.heap.size w (World.setCell w11 ⟨w1.heap.size, 0, none⟩ (.float .f64 (ofKey (L3)))) := (Below.setCell B (p := ⟨w1.heap.size, 0, none⟩) (by first | (show w.heap.size ≤ w1.heap.size; omega) | (have := B.size; show w.heap.size ≤ w1.heap.size; omega)) (.float .f64 (ofKey (L3))))
  clear B
  obtain ⟨w12, hw12⟩ : ∃ w12, w12 = (World.setCell w11 ⟨w1.heap.size, 0, none⟩ (.float .f64 (ofKey (L3)))) := ⟨_, rfl⟩
  rw [← hw12]
  replace A0_0 := At.of A0_0 hw12
  replace A0_1 := At.of A0_1 hw12
  replace A1_0 := At.of A1_0 hw12
  replace A1_1 := At.of A1_1 hw12
  replace A2_0 := At.of A2_0 hw12
  replace A2_1 := At.of A2_1 hw12
  replace A3_0 := At.of A3_0 hw12
  replace A3_1 := At.of A3_1 hw12
  have B := below_of B' hw12
  clear B' hw12
  have F0_0 := A0_0.1; have G0_0 := A0_0.2
  have F0_1 := A0_1.1; have G0_1 := A0_1.2
  have F1_0 := A1_0.1; have G1_0 := A1_0.2
  have F1_1 := A1_1.1; have G1_1 := A1_1.2
  have F2_0 := A2_0.1; have G2_0 := A2_0.2
  have F2_1 := A2_1.1; have G2_1 := A2_1.2
  have F3_0 := A3_0.1; have G3_0 := A3_0.2
  have F3_1 := A3_1.1; have G3_1 := A3_1.2
  have Z0 := A0_0.lt
  have Z1 := A1_0.lt
  have Z2 := A2_0.lt
  have Z3 := A3_0.lt
  clear mL3 re3 Ce3
  go_wp2_with fail
  have k0_0 := cell_regrown A0_0.1
  have k0_1 := cell_regrown A0_1.1
  have k1_0 := cell_regrown A1_0.1
  have k1_1 := cell_regrown A1_1.1
  have k2_0 := cell_regrown A2_0.1
  have k2_1 := cell_regrown A2_1.1
  have k3_0 := cell_regrown A3_0.1
  have k3_1 := cell_regrown A3_1.1
  refine wp_region_below_tail 8 (by kernel_rfl) (by kernel_rfl) ?_
  simp only [List.take_succ_cons, List.take_zero, List.drop_succ_cons, List.drop_zero]
  repeat (go_big_quiet_step ((with_reducible exact Calls.regrown_of (CE3.out _))))
  refine wpQuiet_nil (fun w13 hbw13 => ?_)
  clear k0_0 k0_1 k1_0 k1_1 k2_0 k2_1 k3_0 k3_1
  clear F0_0 G0_0 F0_1 G0_1 F1_0 G1_0 F1_1 G1_1 F2_0 G2_0 F2_1 G2_1 F3_0 G3_0 F3_1 G3_1 Z0 Z1 Z2 Z3
  replace A0_0 := At.below (A0_0) hbw13
  replace A0_1 := At.below (A0_1) hbw13
  replace A1_0 := At.below (A1_0) hbw13
  replace A1_1 := At.below (A1_1) hbw13
  replace A2_0 := At.below (A2_0) hbw13
  replace A2_1 := At.below (A2_1) hbw13
  replace A3_0 := At.below (A3_0) hbw13
  replace A3_1 := At.below (A3_1) hbw13
  replace B := below_step B B.size (hbw13)
  clear hbw13
  have F0_0 := A0_0.1; have G0_0 := A0_0.2
  have F0_1 := A0_1.1; have G0_1 := A0_1.2
  have F1_0 := A1_0.1; have G1_0 := A1_0.2
  have F1_1 := A1_1.1; have G1_1 := A1_1.2
  have F2_0 := A2_0.1; have G2_0 := A2_0.2
  have F2_1 := A2_1.1; have G2_1 := A2_1.2
  have F3_0 := A3_0.1; have G3_0 := A3_0.2
  have F3_1 := A3_1.1; have G3_1 := A3_1.2
  have Z0 := A0_0.lt
  have Z1 := A1_0.lt
  have Z2 := A2_0.lt
  have Z3 := A3_0.lt
  iterate 3 go_step
  clear F0_0 G0_0 F0_1 G0_1 F1_0 G1_0 F1_1 G1_1 F2_0 G2_0 F2_1 G2_1 F3_0 G3_0 F3_1 G3_1 Z0 Z1 Z2 Z3
  replace A0_0 := At.set_blk (b' := w1.heap.size) (f' := 1) A0_0 (by first | omega | (have := B.size; omega)) (.float .f64 (ofKey (H3)))
  replace A0_1 := At.set_blk (b' := w1.heap.size) (f' := 1) A0_1 (by first | omega | (have := B.size; omega)) (.float .f64 (ofKey (H3)))
  replace A1_0 := At.set_blk (b' := w1.heap.size) (f' := 1) A1_0 (by first | omega | (have := B.size; omega)) (.float .f64 (ofKey (H3)))
  replace A1_1 := At.set_blk (b' := w1.heap.size) (f' := 1) A1_1 (by first | omega | (have := B.size; omega)) (.float .f64 (ofKey (H3)))
  replace A2_0 := At.set_blk (b' := w1.heap.size) (f' := 1) A2_0 (by first | omega | (have := B.size; omega)) (.float .f64 (ofKey (H3)))
  replace A2_1 := At.set_blk (b' := w1.heap.size) (f' := 1) A2_1 (by first | omega | (have := B.size; omega)) (.float .f64 (ofKey (H3)))
  replace A3_0 := At.set_off (f' := 1) A3_0 (by decide) (.float .f64 (ofKey (H3)))
  replace A3_1 := At.set_same A3_1 (.float .f64 (ofKey (H3)))
  have B' : Below w.heap.size w (World.setCell w13 ⟨w1.heap.size, 1, none⟩ (.float .f64 (ofKey (H3)))) := (Below.setCell B (p := ⟨w1.heap.size, 1, none⟩) (by first | (show w.heap.size ≤ w1.heap.size; omega) | (have := B.size; show w.heap.size ≤ w1.heap.size; omega)) (.float .f64 (ofKey (H3))))
  clear B
  obtain ⟨w14, hw14⟩ : ∃ w14, w14 = (World.setCell w13 ⟨w1.heap.size, 1, none⟩ (.float .f64 (ofKey (H3)))) := ⟨_, rfl⟩
  rw [← hw14]
  replace A0_0 := At.of A0_0 hw14
  replace A0_1 := At.of A0_1 hw14
  replace A1_0 := At.of A1_0 hw14
  replace A1_1 := At.of A1_1 hw14
  replace A2_0 := At.of A2_0 hw14
  replace A2_1 := At.of A2_1 hw14
  replace A3_0 := At.of A3_0 hw14
  replace A3_1 := At.of A3_1 hw14
  have B := below_of B' hw14
  clear B' hw14
  have F0_0 := A0_0.1; have G0_0 := A0_0.2
  have F0_1 := A0_1.1; have G0_1 := A0_1.2
  have F1_0 := A1_0.1; have G1_0 := A1_0.2
  have F1_1 := A1_1.1; have G1_1 := A1_1.2
  have F2_0 := A2_0.1; have G2_0 := A2_0.2
  have F2_1 := A2_1.1; have G2_1 := A2_1.2
  have F3_0 := A3_0.1; have G3_0 := A3_0.2
  have F3_1 := A3_1.1; have G3_1 := A3_1.2
  have Z0 := A0_0.lt
  have Z1 := A1_0.lt
  have Z2 := A2_0.lt
  have Z3 := A3_0.lt
  clear mH3 rE3 CE3
  go_wp2_with fail
  rw [← HRi.out]
  clear HRi
  refine (show Code.wp _ _ (Exit.then (Rounds _ _ _ 1) _) _ _ from ?_)
  generalize hRi : Rounds _ _ _ 1 = Ri
  have HRi := Lib.hid hRi
  clear hRi
  go_wp2_with fail
  have k0_0 := cell_regrown A0_0.1
  have k0_1 := cell_regrown A0_1.1
  have k1_0 := cell_regrown A1_0.1
  have k1_1 := cell_regrown A1_1.1
  have k2_0 := cell_regrown A2_0.1
  have k2_1 := cell_regrown A2_1.1
  have k3_0 := cell_regrown A3_0.1
  have k3_1 := cell_regrown A3_1.1
  refine wp_region_below_tail 8 (by kernel_rfl) (by kernel_rfl) ?_
  simp only [List.take_succ_cons, List.take_zero, List.drop_succ_cons, List.drop_zero]
  repeat (go_big_quiet_step ((with_reducible exact Calls.regrown_of (Ce4.out _))))
  refine wpQuiet_nil (fun w15 hbw15 => ?_)
  clear k0_0 k0_1 k1_0 k1_1 k2_0 k2_1 k3_0 k3_1
  clear F0_0 G0_0 F0_1 G0_1 F1_0 G1_0 F1_1 G1_1 F2_0 G2_0 F2_1 G2_1 F3_0 G3_0 F3_1 G3_1 Z0 Z1 Z2 Z3
  replace A0_0 := At.below (A0_0) hbw15
  replace A0_1 := At.below (A0_1) hbw15
  replace A1_0 := At.below (A1_0) hbw15
  replace A1_1 := At.below (A1_1) hbw15
  replace A2_0 := At.below (A2_0) hbw15
  replace A2_1 := At.below (A2_1) hbw15
  replace A3_0 := At.below (A3_0) hbw15
  replace A3_1 := At.below (A3_1) hbw15
  replace B := below_step B B.size (hbw15)
  clear hbw15
  have F0_0 := A0_0.1; have G0_0 := A0_0.2
  have F0_1 := A0_1.1; have G0_1 := A0_1.2
  have F1_0 := A1_0.1; have G1_0 := A1_0.2
  have F1_1 := A1_1.1; have G1_1 := A1_1.2
  have F2_0 := A2_0.1; have G2_0 := A2_0.2
  have F2_1 := A2_1.1; have G2_1 := A2_1.2
  have F3_0 := A3_0.1; have G3_0 := A3_0.2
  have F3_1 := A3_1.1; have G3_1 := A3_1.2
  have Z0 := A0_0.lt
  have Z1 := A1_0.lt
  have Z2 := A2_0.lt
  have Z3 := A3_0.lt
  iterate 3 go_step
  clear F0_0 G0_0 F0_1 G0_1 F1_0 G1_0 F1_1 G1_1 F2_0 G2_0 F2_1 G2_1 F3_0 G3_0 F3_1 G3_1 Z0 Z1 Z2 Z3
  replace A0_0 := At.set_blk (b' := w1.heap.size) (f' := 0) A0_0 (by first | omega | (have := B.size; omega)) (.float .f64 (ofKey (L4)))
  replace A0_1 := At.set_blk (b' := w1.heap.size) (f' := 0) A0_1 (by first | omega | (have := B.size; omega)) (.float .f64 (ofKey (L4)))
  replace A1_0 := At.set_blk (b' := w1.heap.size) (f' := 0) A1_0 (by first | omega | (have := B.size; omega)) (.float .f64 (ofKey (L4)))
  replace A1_1 := At.set_blk (b' := w1.heap.size) (f' := 0) A1_1 (by first | omega | (have := B.size; omega)) (.float .f64 (ofKey (L4)))
  replace A2_0 := At.set_blk (b' := w1.heap.size) (f' := 0) A2_0 (by first | omega | (have := B.size; omega)) (.float .f64 (ofKey (L4)))
  replace A2_1 := At.set_blk (b' := w1.heap.size) (f' := 0) A2_1 (by first | omega | (have := B.size; omega)) (.float .f64 (ofKey (L4)))
  replace A3_0 := At.set_same A3_0 (.float .f64 (ofKey (L4)))
  replace A3_1 := At.set_off (f' := 0) A3_1 (by decide) (.float .f64 (ofKey (L4)))
  have B' : Below w.heap.size w (World.setCell w15 ⟨w1.heap.size, 0, none⟩ (.float .f64 (ofKey (L4)))) := (Below.setCell B (p := ⟨w1.heap.size, 0, none⟩) (by first | (show w.heap.size ≤ w1.heap.size; omega) | (have := B.size; show w.heap.size ≤ w1.heap.size; omega)) (.float .f64 (ofKey (L4))))
  clear B
  obtain ⟨w16, hw16⟩ : ∃ w16, w16 = (World.setCell w15 ⟨w1.heap.size, 0, none⟩ (.float .f64 (ofKey (L4)))) := ⟨_, rfl⟩
  rw [← hw16]
  replace A0_0 := At.of A0_0 hw16
  replace A0_1 := At.of A0_1 hw16
  replace A1_0 := At.of A1_0 hw16
  replace A1_1 := At.of A1_1 hw16
  replace A2_0 := At.of A2_0 hw16
  replace A2_1 := At.of A2_1 hw16
  replace A3_0 := At.of A3_0 hw16
  replace A3_1 := At.of A3_1 hw16
  have B := below_of B' hw16
  clear B' hw16
  have F0_0 := A0_0.1; have G0_0 := A0_0.2
  have F0_1 := A0_1.1; have G0_1 := A0_1.2
  have F1_0 := A1_0.1; have G1_0 := A1_0.2
  have F1_1 := A1_1.1; have G1_1 := A1_1.2
  have F2_0 := A2_0.1; have G2_0 := A2_0.2
  have F2_1 := A2_1.1; have G2_1 := A2_1.2
  have F3_0 := A3_0.1; have G3_0 := A3_0.2
  have F3_1 := A3_1.1; have G3_1 := A3_1.2
  have Z0 := A0_0.lt
  have Z1 := A1_0.lt
  have Z2 := A2_0.lt
  have Z3 := A3_0.lt
  clear mL4 re4 Ce4
  go_wp2_with fail
  have k0_0 := cell_regrown A0_0.1
  have k0_1 := cell_regrown A0_1.1
  have k1_0 := cell_regrown A1_0.1
  have k1_1 := cell_regrown A1_1.1
  have k2_0 := cell_regrown A2_0.1
  have k2_1 := cell_regrown A2_1.1
  have k3_0 := cell_regrown A3_0.1
  have k3_1 := cell_regrown A3_1.1
  refine wp_region_below_tail 8 (by kernel_rfl) (by kernel_rfl) ?_
  simp only [List.take_succ_cons, List.take_zero, List.drop_succ_cons, List.drop_zero]
  repeat (go_big_quiet_step ((with_reducible exact Calls.regrown_of (CE4.out _))))
  refine wpQuiet_nil (fun w17 hbw17 => ?_)
  clear k0_0 k0_1 k1_0 k1_1 k2_0 k2_1 k3_0 k3_1
  clear F0_0 G0_0 F0_1 G0_1 F1_0 G1_0 F1_1 G1_1 F2_0 G2_0 F2_1 G2_1 F3_0 G3_0 F3_1 G3_1 Z0 Z1 Z2 Z3
  replace A0_0 := At.below (A0_0) hbw17
  replace A0_1 := At.below (A0_1) hbw17
  replace A1_0 := At.below (A1_0) hbw17
  replace A1_1 := At.below (A1_1) hbw17
  replace A2_0 := At.below (A2_0) hbw17
  replace A2_1 := At.below (A2_1) hbw17
  replace A3_0 := At.below (A3_0) hbw17
  replace A3_1 := At.below (A3_1) hbw17
  replace B := below_step B B.size (hbw17)
  clear hbw17
  have F0_0 := A0_0.1; have G0_0 := A0_0.2
  have F0_1 := A0_1.1; have G0_1 := A0_1.2
  have F1_0 := A1_0.1; have G1_0 := A1_0.2
  have F1_1 := A1_1.1; have G1_1 := A1_1.2
  have F2_0 := A2_0.1; have G2_0 := A2_0.2
  have F2_1 := A2_1.1; have G2_1 := A2_1.2
  have F3_0 := A3_0.1; have G3_0 := A3_0.2
  have F3_1 := A3_1.1; have G3_1 := A3_1.2
  have Z0 := A0_0.lt
  have Z1 := A1_0.lt
  have Z2 := A2_0.lt
  have Z3 := A3_0.lt
  iterate 3 go_step
  clear F0_0 G0_0 F0_1 G0_1 F1_0 G1_0 F1_1 G1_1 F2_0 G2_0 F2_1 G2_1 F3_0 G3_0 F3_1 G3_1 Z0 Z1 Z2 Z3
  replace A0_0 := At.set_blk (b' := w1.heap.size) (f' := 1) A0_0 (by first | omega | (have := B.size; omega)) (.float .f64 (ofKey (H4)))
  replace A0_1 := At.set_blk (b' := w1.heap.size) (f' := 1) A0_1 (by first | omega | (have := B.size; omega)) (.float .f64 (ofKey (H4)))
  replace A1_0 := At.set_blk (b' := w1.heap.size) (f' := 1) A1_0 (by first | omega | (have := B.size; omega)) (.float .f64 (ofKey (H4)))
  replace A1_1 := At.set_blk (b' := w1.heap.size) (f' := 1) A1_1 (by first | omega | (have := B.size; omega)) (.float .f64 (ofKey (H4)))
  replace A2_0 := At.set_blk (b' := w1.heap.size) (f' := 1) A2_0 (by first | omega | (have := B.size; omega)) (.float .f64 (ofKey (H4)))
  replace A2_1 := At.set_blk (b' := w1.heap.size) (f' := 1) A2_1 (by first | omega | (have := B.size; omega)) (.float .f64 (ofKey (H4)))
  replace A3_0 := At.set_off (f' := 1) A3_0 (by decide) (.float .f64 (ofKey (H4)))
  replace A3_1 := At.set_same A3_1 (.float .f64 (ofKey (H4)))
  have B' : Below w.heap.size w (World.setCell w17 ⟨w1.heap.size, 1, none⟩ (.float .f64 (ofKey (H4)))) := (Below.setCell B (p := ⟨w1.heap.size, 1, none⟩) (by first | (show w.heap.size ≤ w1.heap.size; omega) | (have := B.size; show w.heap.size ≤ w1.heap.size; omega)) (.float .f64 (ofKey (H4))))
  clear B
  obtain ⟨w18, hw18⟩ : ∃ w18, w18 = (World.setCell w17 ⟨w1.heap.size, 1, none⟩ (.float .f64 (ofKey (H4)))) := ⟨_, rfl⟩
  rw [← hw18]
  replace A0_0 := At.of A0_0 hw18
  replace A0_1 := At.of A0_1 hw18
  replace A1_0 := At.of A1_0 hw18
  replace A1_1 := At.of A1_1 hw18
  replace A2_0 := At.of A2_0 hw18
  replace A2_1 := At.of A2_1 hw18
  replace A3_0 := At.of A3_0 hw18
  replace A3_1 := At.of A3_1 hw18
  have B := below_of B' hw18
  clear B' hw18
  have F0_0 := A0_0.1; have G0_0 := A0_0.2
  have F0_1 := A0_1.1; have G0_1 := A0_1.2
  have F1_0 := A1_0.1; have G1_0 := A1_0.2
  have F1_1 := A1_1.1; have G1_1 := A1_1.2
  have F2_0 := A2_0.1; have G2_0 := A2_0.2
  have F2_1 := A2_1.1; have G2_1 := A2_1.2
  have F3_0 := A3_0.1; have G3_0 := A3_0.2
  have F3_1 := A3_1.1; have G3_1 := A3_1.2
  have Z0 := A0_0.lt
  have Z1 := A1_0.lt
  have Z2 := A2_0.lt
  have Z3 := A3_0.lt
  clear mH4 rE4 CE4
  go_wp2_with fail
  rw [← HRi.out]
  clear HRi
  refine (show Code.wp _ _ (Exit.then (Rounds _ _ _ 0) _) _ _ from ?_)
  generalize hRi : Rounds _ _ _ 0 = Ri
  have HRi := Lib.hid hRi
  clear hRi
  go_wp2_with fail
  rw [← HRo.out]
  clear HRo
  refine (show Code.wp _ _ (Exit.then (Rounds _ _ _ 0) _) _ _ from ?_)
  generalize hRo : Rounds _ _ _ 0 = Ro
  have HRo := Lib.hid hRo
  clear hRo
  iterate 25 go_step
  clear F0_0 G0_0 F0_1 G0_1 F1_0 G1_0 F1_1 G1_1 F2_0 G2_0 F2_1 G2_1 F3_0 G3_0 F3_1 G3_1 Z0 Z1 Z2 Z3
  replace A0_0 := At.set_blk (b' := w.heap.size + 1 + 1) (f' := 0) A0_0 (by first | omega | (have := B.size; omega)) (.float .f64 (ofKey (L4)))
  replace A0_1 := At.set_blk (b' := w.heap.size + 1 + 1) (f' := 0) A0_1 (by first | omega | (have := B.size; omega)) (.float .f64 (ofKey (L4)))
  replace A1_0 := At.set_blk (b' := w.heap.size + 1 + 1) (f' := 0) A1_0 (by first | omega | (have := B.size; omega)) (.float .f64 (ofKey (L4)))
  replace A1_1 := At.set_blk (b' := w.heap.size + 1 + 1) (f' := 0) A1_1 (by first | omega | (have := B.size; omega)) (.float .f64 (ofKey (L4)))
  replace A2_0 := At.set_same A2_0 (.float .f64 (ofKey (L4)))
  replace A2_1 := At.set_off (f' := 0) A2_1 (by decide) (.float .f64 (ofKey (L4)))
  replace A3_0 := At.set_blk (b' := w.heap.size + 1 + 1) (f' := 0) A3_0 (by first | omega | (have := B.size; omega)) (.float .f64 (ofKey (L4)))
  replace A3_1 := At.set_blk (b' := w.heap.size + 1 + 1) (f' := 0) A3_1 (by first | omega | (have := B.size; omega)) (.float .f64 (ofKey (L4)))
  replace A0_0 := At.set_blk (b' := w.heap.size + 1 + 1) (f' := 1) A0_0 (by first | omega | (have := B.size; omega)) (.float .f64 (ofKey (H4)))
  replace A0_1 := At.set_blk (b' := w.heap.size + 1 + 1) (f' := 1) A0_1 (by first | omega | (have := B.size; omega)) (.float .f64 (ofKey (H4)))
  replace A1_0 := At.set_blk (b' := w.heap.size + 1 + 1) (f' := 1) A1_0 (by first | omega | (have := B.size; omega)) (.float .f64 (ofKey (H4)))
  replace A1_1 := At.set_blk (b' := w.heap.size + 1 + 1) (f' := 1) A1_1 (by first | omega | (have := B.size; omega)) (.float .f64 (ofKey (H4)))
  replace A2_0 := At.set_off (f' := 1) A2_0 (by decide) (.float .f64 (ofKey (H4)))
  replace A2_1 := At.set_same A2_1 (.float .f64 (ofKey (H4)))
  replace A3_0 := At.set_blk (b' := w.heap.size + 1 + 1) (f' := 1) A3_0 (by first | omega | (have := B.size; omega)) (.float .f64 (ofKey (H4)))
  replace A3_1 := At.set_blk (b' := w.heap.size + 1 + 1) (f' := 1) A3_1 (by first | omega | (have := B.size; omega)) (.float .f64 (ofKey (H4)))
  have B' : Below w.heap.size w (World.setCell (World.setCell w18 ⟨w.heap.size + 1 + 1, 0, none⟩ (.float .f64 (ofKey (L4)))) ⟨w.heap.size + 1 + 1, 1, none⟩ (.float .f64 (ofKey (H4)))) := (Below.setCell (Below.setCell B (p := ⟨w.heap.size + 1 + 1, 0, none⟩) (by first | (show w.heap.size ≤ w.heap.size + 1 + 1; omega) | (have := B.size; show w.heap.size ≤ w.heap.size + 1 + 1; omega)) (.float .f64 (ofKey (L4)))) (p := ⟨w.heap.size + 1 + 1, 1, none⟩) (by first | (show w.heap.size ≤ w.heap.size + 1 + 1; omega) | (have := B.size; show w.heap.size ≤ w.heap.size + 1 + 1; omega)) (.float .f64 (ofKey (H4))))
  clear B
  obtain ⟨wz, hwz⟩ : ∃ wz, wz = (World.setCell (World.setCell w18 ⟨w.heap.size + 1 + 1, 0, none⟩ (.float .f64 (ofKey (L4)))) ⟨w.heap.size + 1 + 1, 1, none⟩ (.float .f64 (ofKey (H4)))) := ⟨_, rfl⟩
  rw [← hwz]
  replace A0_0 := At.of A0_0 hwz
  replace A0_1 := At.of A0_1 hwz
  replace A1_0 := At.of A1_0 hwz
  replace A1_1 := At.of A1_1 hwz
  replace A2_0 := At.of A2_0 hwz
  replace A2_1 := At.of A2_1 hwz
  replace A3_0 := At.of A3_0 hwz
  replace A3_1 := At.of A3_1 hwz
  have B := below_of B' hwz
  clear B' hwz
  have F0_0 := A0_0.1; have G0_0 := A0_0.2
  have F0_1 := A0_1.1; have G0_1 := A0_1.2
  have F1_0 := A1_0.1; have G1_0 := A1_0.2
  have F1_1 := A1_1.1; have G1_1 := A1_1.2
  have F2_0 := A2_0.1; have G2_0 := A2_0.2
  have F2_1 := A2_1.1; have G2_1 := A2_1.2
  have F3_0 := A3_0.1; have G3_0 := A3_0.2
  have F3_1 := A3_1.1; have G3_1 := A3_1.2
  have Z0 := A0_0.lt
  have Z1 := A1_0.lt
  have Z2 := A2_0.lt
  have Z3 := A3_0.lt
  refine bodyPost_ret (v := .agg #[.float .f64 (ofKey (L4)), .float .f64 (ofKey (H4))]) (by simp [results, Try.results38, go_sem, F2_0, F2_1]) rfl ⟨rfl, ?_⟩
  exact B

end Go.Proofs.Yteephgpefhodnab
