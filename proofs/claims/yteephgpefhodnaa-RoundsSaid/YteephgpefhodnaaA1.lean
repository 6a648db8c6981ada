/- Contracts of the smallest functions: numbers out of bits, infinities, empty intervals, what is an interval. -/
import Derived.Test.YteephgpefhodnaaRows
import Derived.Test.YteephgpefhodnaaW0
namespace Go.Proofs.Yteephgpefhodnaa
open Go.RowKit Go.Sort Go.Fl
set_option linter.unusedSimpArgs false
set_option linter.unusedVariables false

theorem run_frombits (n : Int) (w : World) : (callFunc 44 #[.int .u64 n]).run Try.prog w = .ok (.value (.float .f64 n.toNat)) w := by
  rw [run_callFunc_extern Try.func44 (by kernel_rfl) (by kernel_rfl) (by kernel_rfl) (by kernel_rfl : Extern.find _ = some Extern.MathFloatBits.float64frombits)]
  rfl
theorem run_tobits (n : Nat) (w : World) : (callFunc 50 #[.float .f64 n]).run Try.prog w = .ok (.value (.int .u64 n)) w := by
  rw [run_callFunc_extern Try.func50 (by kernel_rfl) (by kernel_rfl) (by kernel_rfl) (by kernel_rfl : Extern.find _ = some Extern.MathFloatBits.float64bits)]
  rfl

theorem lawof_any (n : Int) (w : World) :
    Calls Try.prog 16 #[.int .u64 n] w fun e w' => e = .returned (.float .f64 n.toNat) ∧ w = w' := by
  have h := run_frombits
  go_enter Try.func16, Try.ntmps16
  go_wp2
  go_ret
  exact ⟨rfl, rfl⟩

theorem mathinf_pos (n : Int) (hn : 0 ≤ n) (w : World) :
    Calls Try.prog 74 #[.int .i64 n] w fun e w' => e = .returned (.float .f64 (ofKey (PI))) ∧ w = w' := by
  have h := run_frombits
  go_enter Try.func74, Try.ntmps74
  go_wp2
  go_ret
  exact ⟨rfl, rfl⟩
theorem refinf_any (w : World) :
    Calls Try.prog 59 #[] w fun e w' => e = .returned (.float .f64 (ofKey (PI))) ∧ w = w' := by
  go_enter Try.func59, Try.ntmps59
  go_wp2_with (go_at_call 74; refine (mathinf_pos _ (by omega) _).mono ?_; rintro e w' ⟨rfl, rfl⟩)
  go_ret
  exact ⟨rfl, rfl⟩
theorem refempty_any (w : World) :
    Calls Try.prog 62 #[] w fun e w' => e = .returned (.agg #[.float .f64 (ofKey (PI)), .float .f64 (ofKey (-PI))]) ∧ Below w.heap.size w w' := by
  go_enter Try.func62, Try.ntmps62
  go_wp2_with (go_at_call 59; refine (refinf_any _).mono ?_; rintro e w' ⟨rfl, rfl⟩)
  go_returns
  exact ⟨rfl, by go_grown⟩
theorem ivlinf_any (w : World) :
    Calls Try.prog 81 #[] w fun e w' => e = .returned (.float .f64 (ofKey (PI))) ∧ w = w' := by
  go_enter Try.func81, Try.ntmps81
  go_wp2_with (go_at_call 74; refine (mathinf_pos _ (by omega) _).mono ?_; rintro e w' ⟨rfl, rfl⟩)
  go_ret
  exact ⟨rfl, rfl⟩
theorem ivlempty_any (w : World) :
    Calls Try.prog 56 #[] w fun e w' => e = .returned (.agg #[.float .f64 (ofKey (PI)), .float .f64 (ofKey (-PI))]) ∧ Below w.heap.size w w' := by
  go_enter Try.func56, Try.ntmps56
  go_wp2_with (go_at_call 81; refine (ivlinf_any _).mono ?_; rintro e w' ⟨rfl, rfl⟩)
  go_returns
  exact ⟨rfl, by go_grown⟩

/-- Is it an interval? -/
def good (a b : Nat) : Bool := decide (¬ nan a ∧ ¬ nan b ∧ ((key a = PI ∧ key b = -PI) ∨ (key a ≤ key b ∧ key a < PI ∧ -PI < key b)))

theorem refgood_any (a b : Nat) (w : World) :
    Calls Try.prog 45 #[.agg #[.float .f64 (a), .float .f64 (b)]] w fun e w' => e = .returned (.bool (good a b)) ∧ Below w.heap.size w w' := by
  have hP := PI_pos
  by_cases ha : nan a
  · go_enter Try.func45, Try.ntmps45
    go_wp2
    refine wp_region_quiet_lit (by kernel_rfl) (by kernel_rfl) ?_
    repeat (any_goals (first | go_big_quiet_step ((go_at_call 59; exact quiet_s (refinf_any _))) | quiet_step ((go_at_call 59; exact quiet_s (refinf_any _))) | (refine wpQuiet_step (fun K hK => ?_); go_simp; split <;> (refine hK _ ?_; clear hK K))))
    all_goals (refine wpQuiet_nil ?_; intro _ hw'; obtain ⟨nq, hw''⟩ := hw'; subst hw'')
    all_goals go_wp2
    all_goals go_ret
    all_goals exact ⟨ret_b (by simp [good, ha]), below_drewN ((Below.refl _ _).alloc (Nat.le_refl _) _) _⟩
  · have ra1 := (Rg_key ha).1
    have ra2 := (Rg_key ha).2
    by_cases hb : nan b
    · go_enter Try.func45, Try.ntmps45
      go_wp2
      refine wp_region_quiet_lit (by kernel_rfl) (by kernel_rfl) ?_
      repeat (any_goals (first | go_big_quiet_step ((go_at_call 59; exact quiet_s (refinf_any _))) | quiet_step ((go_at_call 59; exact quiet_s (refinf_any _))) | (refine wpQuiet_step (fun K hK => ?_); go_simp; split <;> (refine hK _ ?_; clear hK K))))
      all_goals (refine wpQuiet_nil ?_; intro _ hw'; obtain ⟨nq, hw''⟩ := hw'; subst hw'')
      all_goals go_wp2
      all_goals go_ret
      all_goals exact ⟨ret_b (by simp [good, hb]), below_drewN ((Below.refl _ _).alloc (Nat.le_refl _) _) _⟩
    · have rb1 := (Rg_key hb).1
      have rb2 := (Rg_key hb).2
      go_enter Try.func45, Try.ntmps45
      go_wp2
      refine wp_region_quiet_lit (by kernel_rfl) (by kernel_rfl) ?_
      repeat (any_goals (first | go_big_quiet_step ((go_at_call 59; exact quiet_s (refinf_any _))) | quiet_step ((go_at_call 59; exact quiet_s (refinf_any _))) | (refine wpQuiet_step (fun K hK => ?_); go_simp; split <;> (refine hK _ ?_; clear hK K))))
      all_goals (refine wpQuiet_nil ?_; intro _ hw'; obtain ⟨nq, hw''⟩ := hw'; subst hw'')
      all_goals go_wp2
      all_goals go_ret
      all_goals refine ⟨ret_b ?_, below_drewN ((Below.refl _ _).alloc (Nat.le_refl _) _) _⟩
      all_goals simp only [good, ha, hb, not_false_eq_true, true_and]
      all_goals (first | rfl | (refine (decide_eq_true ?_).symm; omega) | (refine (decide_eq_false ?_).symm; omega) | (refine decide_eq_decide.2 ?_; omega) | (rw [Bool.eq_iff_iff]; simp only [Bool.and_eq_true, Bool.or_eq_true, Bool.not_eq_true, Bool.not_eq_eq_eq_not, Bool.not_true, Bool.not_false, decide_eq_true_eq, decide_eq_false_iff_not, Bool.false_eq_true, true_iff, false_iff] <;> omega))

set_option maxRecDepth 100000 in
theorem eqiv (a b c d : Nat) (w : World) : (Op.equalIn 10000 28 (.agg #[.float .f64 a, .float .f64 b]) (.agg #[.float .f64 c, .float .f64 d])).run Try.prog w = .ok ((FloatKind.f64.format.order a c == some .eq) && (FloatKind.f64.format.order b d == some .eq)) w := by
  have u3 := Try.underlying26
  have a3 := Try.isAgg26
  have z3 := Try.sizeOf26
  have hS : Try.prog.underlying 28 = some (.struct (Try.prog.fieldsOf 28)) := by kernel_rfl
  have hp : Try.prog.stoodInHeld 28 = false := by kernel_rfl
  rw [show (10000 : Nat) = 9999 + 1 from rfl, run_equalIn_agg w 9999 28 _ _ hS hp]
  simp only [Program.fieldsOf, Try.underlying28]
  have f := fun (w : World) (x y : Nat) => run_equalIn_float (P := Try.prog) w 9998 26 .f64 .f64 x y u3
  go_simp
  by_cases h1 : FloatKind.f64.format.order a c = some .eq <;> by_cases h2 : FloatKind.f64.format.order b d = some .eq <;> simp [h1, h2]
theorem ivlgood_any (a b : Nat) (w : World) :
    Calls Try.prog 72 #[.agg #[.float .f64 (a), .float .f64 (b)]] w fun e w' => e = .returned (.bool (good a b)) ∧ Below w.heap.size w w' := by
  have hP := PI_pos
  have he := eqiv
  have k0 := cell_regrown (w := (World.alloc w (.cells #[.float .f64 (a), .float .f64 (b)] 28))) (a := ⟨w.heap.size, 0, none⟩) (v := .float .f64 a) (by simp [go_sem])
  have k1 := cell_regrown (w := (World.alloc w (.cells #[.float .f64 (a), .float .f64 (b)] 28))) (a := ⟨w.heap.size, 1, none⟩) (v := .float .f64 b) (by simp [go_sem])
  by_cases ha : nan a
  · go_enter Try.func72, Try.ntmps72
    go_wp2
    all_goals refine wp_region_below (by kernel_rfl) (by kernel_rfl) ?_
    repeat (any_goals (first | go_big_quiet_step ((first | (go_at_call 56; exact Calls.regrown_of (ivlempty_any _)) | (go_at_call 81; exact quiet_same (ivlinf_any _)))) | quiet_step ((first | (go_at_call 56; exact Calls.regrown_of (ivlempty_any _)) | (go_at_call 81; exact quiet_same (ivlinf_any _)))) | (refine wpQuiet_step (fun K hK => ?_); go_simp; split <;> (refine hK _ ?_; clear hK K))))
    all_goals (refine wpQuiet_nil (fun w2 hbw2 => ?_))
    all_goals go_wp2
    all_goals go_ret
    all_goals exact ⟨ret_b (by simp [good, ha]), below_alloc hbw2⟩
  · have ra1 := (Rg_key ha).1
    have ra2 := (Rg_key ha).2
    by_cases hb : nan b
    · go_enter Try.func72, Try.ntmps72
      go_wp2
      all_goals refine wp_region_below (by kernel_rfl) (by kernel_rfl) ?_
      repeat (any_goals (first | go_big_quiet_step ((first | (go_at_call 56; exact Calls.regrown_of (ivlempty_any _)) | (go_at_call 81; exact quiet_same (ivlinf_any _)))) | quiet_step ((first | (go_at_call 56; exact Calls.regrown_of (ivlempty_any _)) | (go_at_call 81; exact quiet_same (ivlinf_any _)))) | (refine wpQuiet_step (fun K hK => ?_); go_simp; split <;> (refine hK _ ?_; clear hK K))))
      all_goals (refine wpQuiet_nil (fun w2 hbw2 => ?_))
      all_goals go_wp2
      all_goals go_ret
      all_goals exact ⟨ret_b (by simp [good, hb]), below_alloc hbw2⟩
    · have rb1 := (Rg_key hb).1
      have rb2 := (Rg_key hb).2
      go_enter Try.func72, Try.ntmps72
      go_wp2
      all_goals refine wp_region_below (by kernel_rfl) (by kernel_rfl) ?_
      repeat (any_goals (first | go_big_quiet_step ((first | (go_at_call 56; exact Calls.regrown_of (ivlempty_any _)) | (go_at_call 81; exact quiet_same (ivlinf_any _)))) | quiet_step ((first | (go_at_call 56; exact Calls.regrown_of (ivlempty_any _)) | (go_at_call 81; exact quiet_same (ivlinf_any _)))) | (refine wpQuiet_step (fun K hK => ?_); go_simp; split <;> (refine hK _ ?_; clear hK K))))
      all_goals (refine wpQuiet_nil (fun w2 hbw2 => ?_))
      all_goals go_wp2
      all_goals go_ret
      all_goals refine ⟨ret_b ?_, below_alloc hbw2⟩
      all_goals simp only [good, ha, hb, not_false_eq_true, true_and]
      all_goals (first | rfl | (refine (decide_eq_true ?_).symm; omega) | (refine (decide_eq_false ?_).symm; omega) | (refine decide_eq_decide.2 ?_; omega) | (rw [Bool.eq_iff_iff]; simp only [Bool.and_eq_true, Bool.or_eq_true, Bool.not_eq_true, Bool.not_eq_eq_eq_not, Bool.not_true, Bool.not_false, decide_eq_true_eq, decide_eq_false_iff_not, Bool.false_eq_true, true_iff, false_iff] <;> omega))

end Go.Proofs.Yteephgpefhodnaa
