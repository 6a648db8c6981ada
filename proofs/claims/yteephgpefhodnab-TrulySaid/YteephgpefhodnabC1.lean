/- Package ivl: the small functions; a sum, product or quotient of two ends. -/
import Derived.Test.YteephgpefhodnabB11
import Derived.Test.YteephgpefhodnabF17
import Derived.Test.YteephgpefhodnabA5
namespace Go.Proofs.Yteephgpefhodnab
open Go.RowKit Go.Sort Go.Fl
set_option linter.unusedSimpArgs false
set_option linter.unusedVariables false

theorem roundK_rg (o x y : Int) (up : Bool) : Rg (roundK o x y up) := by
  unfold roundK
  split
  · exact rnd_rg _ _
  · split
    · exact rnd_rg _ _
    · split
      · exact rnd_rg _ _
      · split
        · exact rnd_rg _ _
        · exact rnd_rg _ _

theorem ivlwhole_any (w : World) :
    Calls Try.prog 49 #[] w fun e w' => e = .returned (.agg #[.float .f64 (ofKey (-PI)), .float .f64 (ofKey (PI))]) ∧ Below w.heap.size w w' := by
  go_enter Try.func49, Try.ntmps49
  go_wp2_with (go_at_call 24; refine (ivlinf_any _).mono ?_; rintro e w' ⟨rfl, rfl⟩)
  go_returns
  exact ⟨rfl, by go_grown⟩
theorem ivlzero_any (w : World) :
    Calls Try.prog 48 #[] w fun e w' => e = .returned (.agg #[.float .f64 0, .float .f64 0]) ∧ Below w.heap.size w w' := by
  go_enter Try.func48, Try.ntmps48
  go_wp2_with fail
  go_returns
  exact ⟨rfl, by go_grown⟩
theorem bounded_any (a b : Int) (ha : Rg a) (hb : Rg b) (w : World) :
    Calls Try.prog 19 #[.agg #[.float .f64 (ofKey (a)), .float .f64 (ofKey (b))]] w fun e w' => e = .returned (.bool (decide (-PI < a ∧ a < PI ∧ -PI < b ∧ b < PI))) ∧ Below w.heap.size w w' := by
  have q1 := ha.1; have q2 := ha.2; have q3 := hb.1; have q4 := hb.2
  by_cases h1 : -PI < a ∧ a < PI
  · have FA := Lib.hid (finite_yes _ (ofKey_lt ha) (fin_ofKey h1.1 h1.2))
    by_cases h2 : -PI < b ∧ b < PI
    · have FB := Lib.hid (finite_yes _ (ofKey_lt hb) (fin_ofKey h2.1 h2.2))
      rw [show decide (-PI < a ∧ a < PI ∧ -PI < b ∧ b < PI) = true from decide_eq_true ⟨h1.1, h1.2, h2⟩]
      clear h1 h2 q1 q2 q3 q4
      go_enter Try.func19, Try.ntmps19
      go_wp2_with (go_at_call 25; (first | (with_reducible refine (FA.out _).mono ?_) | (with_reducible refine (FB.out _).mono ?_)); rintro e w' ⟨rfl, rfl⟩)
      go_ret
      exact ⟨rfl, by go_grown⟩
    · have FB := Lib.hid (finite_no _ (ofKey_lt hb) (by rw [nan_key_fin (not_nan_ofKey hb), key_ofKey hb]; omega))
      rw [show decide (-PI < a ∧ a < PI ∧ -PI < b ∧ b < PI) = false from decide_eq_false (fun h => h2 h.2.2)]
      clear h1 h2 q1 q2 q3 q4
      go_enter Try.func19, Try.ntmps19
      go_wp2_with (go_at_call 25; (first | (with_reducible refine (FA.out _).mono ?_) | (with_reducible refine (FB.out _).mono ?_)); rintro e w' ⟨rfl, rfl⟩)
      go_ret
      exact ⟨rfl, by go_grown⟩
  · have FA := Lib.hid (finite_no _ (ofKey_lt ha) (by rw [nan_key_fin (not_nan_ofKey ha), key_ofKey ha]; omega))
    rw [show decide (-PI < a ∧ a < PI ∧ -PI < b ∧ b < PI) = false from decide_eq_false (fun h => h1 ⟨h.1, h.2.1⟩)]
    clear h1 q1 q2 q3 q4
    go_enter Try.func19, Try.ntmps19
    go_wp2_with (go_at_call 25; refine (FA.out _).mono ?_; rintro e w' ⟨rfl, rfl⟩)
    go_ret
    exact ⟨rfl, by go_grown⟩
theorem ivlhas_any (a b : Int) (ha : Rg a) (hb : Rg b) (w : World) :
    Calls Try.prog 26 #[.agg #[.float .f64 (ofKey (a)), .float .f64 (ofKey (b))]] w fun e w' => e = .returned (.bool (decide (a ≤ 0 ∧ 0 ≤ b))) ∧ Below w.heap.size w w' := by
  by_cases h1 : a ≤ 0 <;> by_cases h2 : 0 ≤ b
  all_goals
    go_enter Try.func26, Try.ntmps26
    go_wp2_with fail
    go_ret
    exact ⟨ret_b (by (first | rfl | (refine (decide_eq_true ?_).symm; omega) | (refine (decide_eq_false ?_).symm; omega) | (refine decide_eq_decide.2 ?_; omega) | (rw [Bool.eq_iff_iff]; simp only [Bool.and_eq_true, Bool.or_eq_true, Bool.not_eq_true, Bool.not_eq_eq_eq_not, Bool.not_true, Bool.not_false, decide_eq_true_eq, decide_eq_false_iff_not, Bool.false_eq_true, true_iff, false_iff] <;> omega))), by go_grown⟩
theorem ivlneg_any (a b : Int) (ha : Rg a) (hb : Rg b) (w : World) :
    Calls Try.prog 28 #[.agg #[.float .f64 (ofKey (a)), .float .f64 (ofKey (b))]] w fun e w' => e = .returned (.agg #[.float .f64 (ofKey (-b)), .float .f64 (ofKey (-a))]) ∧ Below w.heap.size w w' := by
  go_enter Try.func28, Try.ntmps28
  go_wp2_with fail
  go_returns
  exact ⟨rfl, by go_grown⟩

/-- A sum, product or quotient of two ends. -/
noncomputable def endK (o x y : Int) (up : Bool) : Int :=
  if -PI < x ∧ x < PI ∧ -PI < y ∧ y < PI then roundK o x y up
  else if o = 8 then (if x = 0 ∨ y = 0 then 0 else infSign x y)
  else if o = 6 then (if x = PI ∨ y = PI then PI else -PI)
  else if y = PI ∨ y = -PI then 0 else x
def EndOk (o x y : Int) : Prop := (o = 6 ∧ ¬ (x = PI ∧ y = -PI) ∧ ¬ (x = -PI ∧ y = PI)) ∨ o = 8 ∨ (o = 9 ∧ y ≠ 0)
theorem infSign_rg (x y : Int) : Rg (infSign x y) := by
  unfold infSign; split
  · exact Rg_PI
  · exact Rg_MI
theorem endK_rg (o x y : Int) (up : Bool) (hx : Rg x) : Rg (endK o x y up) := by
  unfold endK
  split
  · exact roundK_rg _ _ _ _
  · split
    · split
      · exact Rg_zero
      · exact infSign_rg _ _
    · split
      · split
        · exact Rg_PI
        · exact Rg_MI
      · split
        · exact Rg_zero
        · exact hx
theorem infSign_self {x : Int} (h : x = PI ∨ x = -PI) : infSign x PI = x := by
  have hP := PI_pos
  unfold infSign
  split <;> omega

set_option maxHeartbeats 1000000 in
theorem ivlend_any (o x y : Int) (up : Bool) (hx : Rg x) (hy : Rg y) (hok : EndOk o x y) (w : World) :
    Calls Try.prog 46 #[.int .i64 o, .float .f64 (ofKey (x)), .float .f64 (ofKey (y)), .bool up] w fun e w' => e = .returned (.float .f64 (ofKey (endK o x y up))) ∧ Below w.heap.size w w' := by
  have hP := PI_pos
  have q1 := hx.1; have q2 := hx.2; have q3 := hy.1; have q4 := hy.2
  have nN := nan_NANW
  have wN := wd_NANW
  have hRD := fpround_any o (ofKey x) (ofKey y) up (ofKey_lt hx) (ofKey_lt hy)
  by_cases hf : -PI < x ∧ x < PI ∧ -PI < y ∧ y < PI
  · have he : endK o x y up = roundK o x y up := by unfold endK; rw [if_pos hf]
    have hr : roundW o (ofKey x) (ofKey y) up = ofKey (roundK o x y up) := by
      rw [round_yes up ?_, key_ofKey hx, key_ofKey hy]
      refine ⟨fin_ofKey hf.1 hf.2.1, .inr ⟨fin_ofKey hf.2.2.1 hf.2.2.2, ?_⟩⟩
      rw [key_ofKey hy]
      unfold EndOk at hok
      omega
    rw [hr] at hRD
    have hg := roundK_rg o x y up
    rw [he]
    generalize roundK o x y up = k at *
    have RD := Lib.hid hRD
    clear hRD hr he hf hok q1 q2 q3 q4
    go_enter Try.func46, Try.ntmps46
    go_wp2_with (first | (go_at_call 52; refine (RD.out _).mono ?_; rintro e w1 ⟨rfl, hbw1⟩; skip) | (go_at_call 43; refine (isnan_no _ (not_nan_ofKey hg) _).mono ?_; rintro e w' ⟨rfl, rfl⟩))
    go_ret
    exact ⟨rfl, hbw1⟩
  · have hr : roundW o (ofKey x) (ofKey y) up = NANW := by
      refine round_no up ?_
      intro h
      unfold EndOk at hok
      have h1 := (nan_key_fin (not_nan_ofKey hx)).1 h.1
      rw [key_ofKey hx] at h1
      rcases h.2 with h2 | h2
      · omega
      · have h3 := (nan_key_fin (not_nan_ofKey hy)).1 h2.1
        rw [key_ofKey hy] at h3
        omega
    rw [hr] at hRD
    have RD := Lib.hid hRD
    clear hRD hr
    have IP := Lib.hid (isinf0_any (ofKey y) (not_nan_ofKey hy) (ofKey_lt hy))
    rw [key_ofKey hy] at IP
    rcases hok with ⟨rfl, h1, h2⟩ | rfl | ⟨rfl, h1⟩
    · have he : endK 6 x y up = if x = PI ∨ y = PI then PI else -PI := by unfold endK; rw [if_neg hf, if_neg (by omega), if_pos rfl]
      have hs := fun (w : World) (t : TypeId) => run_float_arith (P := Try.prog) w .add t .f64 _ _ _ (add_infk hx hy (by omega) h1 h2)
      rw [he]
      clear he
      generalize (if x = PI ∨ y = PI then PI else -PI) = k at *
      clear hf h1 h2 q1 q2 q3 q4
      go_enter Try.func46, Try.ntmps46
      go_wp2_with (first | (go_at_call 52; refine (RD.out _).mono ?_; rintro e w1 ⟨rfl, hbw1⟩; skip) | (go_at_call 43; refine (isnan_yes _ nN _).mono ?_; rintro e w' ⟨rfl, rfl⟩))
      go_ret
      exact ⟨rfl, hbw1⟩
    · have he : endK 8 x y up = if x = 0 ∨ y = 0 then 0 else infSign x y := by unfold endK; rw [if_neg hf, if_pos rfl]
      rw [he]
      clear he
      by_cases h0 : x = 0
      · rw [if_pos (.inl h0)]
        have d1 : decide (x = 0) = true := decide_eq_true h0
        clear hf h0 q1 q2 q3 q4
        go_enter Try.func46, Try.ntmps46
        go_wp2_with (first | (go_at_call 52; refine (RD.out _).mono ?_; rintro e w1 ⟨rfl, hbw1⟩; skip) | (go_at_call 43; refine (isnan_yes _ nN _).mono ?_; rintro e w' ⟨rfl, rfl⟩))
        go_ret
        exact ⟨rfl, hbw1⟩
      · have d1 : decide (x = 0) = false := decide_eq_false h0
        by_cases h1 : y = 0
        · rw [if_pos (.inr h1)]
          have d2 : decide (y = 0) = true := decide_eq_true h1
          clear hf h0 h1 q1 q2 q3 q4
          go_enter Try.func46, Try.ntmps46
          go_wp2_with (first | (go_at_call 52; refine (RD.out _).mono ?_; rintro e w1 ⟨rfl, hbw1⟩; skip) | (go_at_call 43; refine (isnan_yes _ nN _).mono ?_; rintro e w' ⟨rfl, rfl⟩))
          go_ret
          exact ⟨rfl, hbw1⟩
        · rw [if_neg (by omega)]
          have d2 : decide (y = 0) = false := decide_eq_false h1
          have hs := fun (w : World) (t : TypeId) => run_float_arith (P := Try.prog) w .mul t .f64 _ _ _ (mul_infk hx hy (by omega) h0 h1)
          clear hf h0 h1 q1 q2 q3 q4
          go_enter Try.func46, Try.ntmps46
          go_wp2_with (first | (go_at_call 52; refine (RD.out _).mono ?_; rintro e w1 ⟨rfl, hbw1⟩; skip) | (go_at_call 43; refine (isnan_yes _ nN _).mono ?_; rintro e w' ⟨rfl, rfl⟩))
          go_ret
          exact ⟨rfl, hbw1⟩
    · have he : endK 9 x y up = if y = PI ∨ y = -PI then 0 else x := by unfold endK; rw [if_neg hf, if_neg (by omega), if_neg (by omega)]
      rw [he]
      clear he
      have hb : (decide (y = PI) || decide (y = -PI)) = decide (y = PI ∨ y = -PI) := by rw [Bool.decide_or]
      by_cases h2 : y = PI ∨ y = -PI
      · rw [if_pos h2]
        have IQ := Lib.hid IP.out
        rw [hb, decide_eq_true h2] at IQ
        clear hf h1 h2 hb IP q1 q2 q3 q4
        go_enter Try.func46, Try.ntmps46
        go_wp2_with (first | (go_at_call 52; refine (RD.out _).mono ?_; rintro e w1 ⟨rfl, hbw1⟩; skip) | (go_at_call 43; refine (isnan_yes _ nN _).mono ?_; rintro e w' ⟨rfl, rfl⟩) | (go_at_call 42; refine (IQ.out _).mono ?_; rintro e w' ⟨rfl, rfl⟩))
        go_ret
        exact ⟨rfl, hbw1⟩
      · rw [if_neg h2]
        have IQ := Lib.hid IP.out
        rw [hb, decide_eq_false h2] at IQ
        have hs := fun (w : World) (t : TypeId) => run_float_arith (P := Try.prog) w .mul t .f64 _ _ _ (mul_infk hx Rg_PI (by omega) (by omega) (by omega))
        rw [infSign_self (by omega)] at hs
        clear hf h1 h2 hb IP q1 q2 q3 q4
        go_enter Try.func46, Try.ntmps46
        go_wp2_with (first | (go_at_call 52; refine (RD.out _).mono ?_; rintro e w1 ⟨rfl, hbw1⟩; skip) | (go_at_call 43; refine (isnan_yes _ nN _).mono ?_; rintro e w' ⟨rfl, rfl⟩) | (go_at_call 42; refine (IQ.out _).mono ?_; rintro e w' ⟨rfl, rfl⟩) | (go_at_call 24; refine (ivlinf_any _).mono ?_; rintro e w' ⟨rfl, rfl⟩))
        go_ret
        exact ⟨rfl, hbw1⟩

end Go.Proofs.Yteephgpefhodnab
