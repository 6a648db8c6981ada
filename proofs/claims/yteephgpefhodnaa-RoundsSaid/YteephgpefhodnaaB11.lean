/- fp.Round: the result of an operation on two numbers, rounded down and up. -/
import Derived.Test.YteephgpefhodnaaB10
namespace Go.Proofs.Yteephgpefhodnaa
open Go.RowKit Go.Sort Go.Fl
set_option linter.unusedSimpArgs false
set_option linter.unusedVariables false

theorem nan_key_fin {x : Nat} (h : ¬ nan x) : fin x ↔ ¬ (key x = PI ∨ key x = -PI) := by
  have h1 := Rg_key h
  have := h1.1; have := h1.2
  rw [fin_key, ← PI_INF]; omega
theorem isinf0_nan (x : Nat) (hx : nan x) (hw : Wd x) (w : World) :
    Calls Try.prog 49 #[.float .f64 x, .int .i64 0] w fun e w' => e = .returned (.bool false) ∧ w = w' := by
  have hn : nan (absw x) := by rw [nn_absw]; exact hx
  go_enter Try.func49, Try.ntmps49
  go_wp2_with (go_at_call 75; refine (mathabs_any _ hw _).mono ?_; rintro e w' ⟨rfl, rfl⟩)
  go_ret
  exact ⟨rfl, rfl⟩
theorem finite_yes (x : Nat) (hw : Wd x) (h : fin x) (w : World) :
    Calls Try.prog 78 #[.float .f64 x] w fun e w' => e = .returned (.bool true) ∧ w = w' := by
  have hn : ¬ nan x := by unfold nan; unfold fin at h; omega
  have hk := (nan_key_fin hn).1 h
  have d1 : decide (key x = PI) = false := decide_eq_false (by omega)
  have d2 : decide (key x = -PI) = false := decide_eq_false (by omega)
  go_enter Try.func78, Try.ntmps78
  go_wp2_with (first | (go_at_call 49; refine (isinf0_any _ hn hw _).mono ?_; rintro e w' ⟨rfl, rfl⟩) | (go_at_call 96; refine (isnan_no _ hn _).mono ?_; rintro e w' ⟨rfl, rfl⟩))
  go_ret
  exact ⟨rfl, rfl⟩
theorem finite_no (x : Nat) (hw : Wd x) (h : ¬ fin x) (w : World) :
    Calls Try.prog 78 #[.float .f64 x] w fun e w' => e = .returned (.bool false) ∧ w = w' := by
  by_cases hn : nan x
  · go_enter Try.func78, Try.ntmps78
    go_wp2_with (first | (go_at_call 49; refine (isinf0_nan _ hn hw _).mono ?_; rintro e w' ⟨rfl, rfl⟩) | (go_at_call 96; refine (isnan_yes _ hn _).mono ?_; rintro e w' ⟨rfl, rfl⟩))
    go_ret
    exact ⟨rfl, rfl⟩
  · have hk := (not_congr (nan_key_fin hn)).1 h
    have hd : (decide (key x = PI) || decide (key x = -PI)) = true := by
      rw [← Bool.decide_or]; exact decide_eq_true (by omega)
    have hI := isinf0_any x hn hw
    rw [hd] at hI
    have HI := Lib.hid hI
    clear hI hd hk
    go_enter Try.func78, Try.ntmps78
    go_wp2_with (first | (go_at_call 49; refine (HI.out _).mono ?_; rintro e w' ⟨rfl, rfl⟩) | (go_at_call 96; refine (isnan_no _ hn _).mono ?_; rintro e w' ⟨rfl, rfl⟩))
    go_ret
    exact ⟨rfl, rfl⟩

/-- Where Round answers a number; and which. -/
def rok (o : Int) (x y : Nat) : Bool := decide (fin x ∧ ((o = 3 ∧ 0 ≤ key x) ∨ (fin y ∧ (o = 6 ∨ o = 7 ∨ o = 8 ∨ (o = 9 ∧ key y ≠ 0)))))
noncomputable def roundK (o x y : Int) (up : Bool) : Int :=
  if o = 3 then sqrtK x up else if o = 6 then addK x y up else if o = 7 then addK x (-y) up else if o = 8 then mulK x y up else divK x y up
noncomputable def roundW (o : Int) (x y : Nat) (up : Bool) : Nat := if rok o x y = true then ofKey (roundK o (key x) (key y) up) else NANW

theorem round_yes {o : Int} {x y : Nat} (up : Bool) (h : fin x ∧ ((o = 3 ∧ 0 ≤ key x) ∨ (fin y ∧ (o = 6 ∨ o = 7 ∨ o = 8 ∨ (o = 9 ∧ key y ≠ 0))))) : roundW o x y up = ofKey (roundK o (key x) (key y) up) := by
  unfold roundW rok
  rw [if_pos (decide_eq_true h)]
theorem round_no {o : Int} {x y : Nat} (up : Bool) (h : ¬ (fin x ∧ ((o = 3 ∧ 0 ≤ key x) ∨ (fin y ∧ (o = 6 ∨ o = 7 ∨ o = 8 ∨ (o = 9 ∧ key y ≠ 0)))))) : roundW o x y up = NANW := by
  unfold roundW rok
  rw [decide_eq_false h, if_neg (by decide)]

set_option maxHeartbeats 1000000 in
theorem fpround_any (o : Int) (x y : Nat) (up : Bool) (hwx : Wd x) (hwy : Wd y) (w : World) :
    Calls Try.prog 64 #[.int .i64 o, .float .f64 x, .float .f64 y, .bool up] w fun e w' => e = .returned (.float .f64 (roundW o x y up)) ∧ Below w.heap.size w w' := by
  have nN := nan_NANW
  have wN := wd_NANW
  by_cases fx : fin x
  · have nx : ¬ nan x := by unfold nan; unfold fin at fx; omega
    have FX := Lib.hid (finite_yes x hwx fx)
    by_cases o3 : o = 3
    · subst o3
      by_cases h0 : 0 ≤ key x
      · rw [round_yes up ⟨fx, .inl ⟨rfl, h0⟩⟩, show roundK 3 (key x) (key y) up = sqrtK (key x) up from rfl]
        have SQ := Lib.hid (fpsqrt_any x up fx hwx h0)
        have d1 : decide (0 ≤ key x) = true := decide_eq_true h0
        go_enter Try.func64, Try.ntmps64
        go_wp2_with (first | (go_at_call 66; refine (mathnan_any _).mono ?_; rintro e w' ⟨rfl, rfl⟩) | (go_at_call 78; refine (FX.out _).mono ?_; rintro e w' ⟨rfl, rfl⟩) | (go_at_call 86; refine (SQ.out _).mono ?_; rintro e w' ⟨rfl, rfl⟩))
        go_ret
        exact ⟨rfl, Below.refl _ _⟩
      · rw [round_no up (by omega)]
        have d1 : decide (0 ≤ key x) = false := decide_eq_false h0
        go_enter Try.func64, Try.ntmps64
        go_wp2_with (first | (go_at_call 66; refine (mathnan_any _).mono ?_; rintro e w' ⟨rfl, rfl⟩) | (go_at_call 78; refine (FX.out _).mono ?_; rintro e w' ⟨rfl, rfl⟩))
        go_ret
        exact ⟨rfl, Below.refl _ _⟩
    · by_cases fy : fin y
      · have ny : ¬ nan y := by unfold nan; unfold fin at fy; omega
        have FY := Lib.hid (finite_yes y hwy fy)
        by_cases o6 : o = 6
        · subst o6
          rw [round_yes up ⟨fx, .inr ⟨fy, .inl rfl⟩⟩, show roundK 6 (key x) (key y) up = addK (key x) (key y) up from rfl]
          have AD := Lib.hid (fpadd_any x y up fx fy hwx hwy)
          go_enter Try.func64, Try.ntmps64
          go_wp2_with (first | (go_at_call 66; refine (mathnan_any _).mono ?_; rintro e w' ⟨rfl, rfl⟩) | (go_at_call 78; (first | (with_reducible refine (FX.out _).mono ?_) | (with_reducible refine (FY.out _).mono ?_)); rintro e w' ⟨rfl, rfl⟩) | (go_at_call 83; refine (AD.out _).mono ?_; rintro e w' ⟨rfl, rfl⟩))
          go_ret
          exact ⟨rfl, Below.refl _ _⟩
        · by_cases o7 : o = 7
          · subst o7
            rw [round_yes up ⟨fx, .inr ⟨fy, .inr (.inl rfl)⟩⟩, show roundK 7 (key x) (key y) up = addK (key x) (-key y) up from rfl]
            have f := fneg_facts hwy
            have fn : fin (Op.negFloat .f64 y) := by
              have h2 : rung (Op.negFloat .f64 y) = rung y := f.2.1
              unfold fin; rw [h2]; exact fy
            have hAD := fpadd_any x (Op.negFloat .f64 y) up fx fn hwx f.1
            rw [k_neg hwy] at hAD
            have AD := Lib.hid hAD
            clear hAD f fn
            go_enter Try.func64, Try.ntmps64
            go_wp2_with (first | (go_at_call 66; refine (mathnan_any _).mono ?_; rintro e w' ⟨rfl, rfl⟩) | (go_at_call 78; (first | (with_reducible refine (FX.out _).mono ?_) | (with_reducible refine (FY.out _).mono ?_)); rintro e w' ⟨rfl, rfl⟩) | (go_at_call 83; refine (AD.out _).mono ?_; rintro e w' ⟨rfl, rfl⟩))
            go_ret
            exact ⟨rfl, Below.refl _ _⟩
          · by_cases o8 : o = 8
            · subst o8
              rw [round_yes up ⟨fx, .inr ⟨fy, .inr (.inr (.inl rfl))⟩⟩, show roundK 8 (key x) (key y) up = mulK (key x) (key y) up from rfl]
              have MU := Lib.hid (fpmul_any x y up fx fy hwx hwy)
              go_enter Try.func64, Try.ntmps64
              go_wp2_with (first | (go_at_call 66; refine (mathnan_any _).mono ?_; rintro e w' ⟨rfl, rfl⟩) | (go_at_call 78; (first | (with_reducible refine (FX.out _).mono ?_) | (with_reducible refine (FY.out _).mono ?_)); rintro e w' ⟨rfl, rfl⟩) | (go_at_call 84; refine (MU.out _).mono ?_; rintro e w1 ⟨rfl, hbw1⟩; skip))
              go_ret
              exact ⟨rfl, hbw1⟩
            · by_cases o9 : o = 9
              · subst o9
                by_cases y0 : key y = 0
                · rw [round_no up (by omega)]
                  have d1 : decide (key y = 0) = true := decide_eq_true y0
                  go_enter Try.func64, Try.ntmps64
                  go_wp2_with (first | (go_at_call 66; refine (mathnan_any _).mono ?_; rintro e w' ⟨rfl, rfl⟩) | (go_at_call 78; (first | (with_reducible refine (FX.out _).mono ?_) | (with_reducible refine (FY.out _).mono ?_)); rintro e w' ⟨rfl, rfl⟩))
                  go_ret
                  exact ⟨rfl, Below.refl _ _⟩
                · rw [round_yes up ⟨fx, .inr ⟨fy, .inr (.inr (.inr ⟨rfl, y0⟩))⟩⟩, show roundK 9 (key x) (key y) up = divK (key x) (key y) up from rfl]
                  have DI := Lib.hid (fpdiv_any x y up fx fy hwx hwy y0)
                  have d1 : decide (key y = 0) = false := decide_eq_false y0
                  go_enter Try.func64, Try.ntmps64
                  go_wp2_with (first | (go_at_call 66; refine (mathnan_any _).mono ?_; rintro e w' ⟨rfl, rfl⟩) | (go_at_call 78; (first | (with_reducible refine (FX.out _).mono ?_) | (with_reducible refine (FY.out _).mono ?_)); rintro e w' ⟨rfl, rfl⟩) | (go_at_call 85; refine (DI.out _).mono ?_; rintro e w1 ⟨rfl, hbw1⟩; skip))
                  go_ret
                  exact ⟨rfl, hbw1⟩
              · rw [round_no up (by omega)]
                go_enter Try.func64, Try.ntmps64
                go_wp2_with (first | (go_at_call 66; refine (mathnan_any _).mono ?_; rintro e w' ⟨rfl, rfl⟩) | (go_at_call 78; (first | (with_reducible refine (FX.out _).mono ?_) | (with_reducible refine (FY.out _).mono ?_)); rintro e w' ⟨rfl, rfl⟩))
                go_ret
                exact ⟨rfl, Below.refl _ _⟩
      · rw [round_no up (fun h => h.2.elim (fun h => o3 h.1) (fun h => fy h.1))]
        have FY := Lib.hid (finite_no y hwy fy)
        go_enter Try.func64, Try.ntmps64
        go_wp2_with (first | (go_at_call 66; refine (mathnan_any _).mono ?_; rintro e w' ⟨rfl, rfl⟩) | (go_at_call 78; (first | (with_reducible refine (FX.out _).mono ?_) | (with_reducible refine (FY.out _).mono ?_)); rintro e w' ⟨rfl, rfl⟩))
        go_ret
        exact ⟨rfl, Below.refl _ _⟩
  · rw [round_no up (fun h => fx h.1)]
    have FX := Lib.hid (finite_no x hwx fx)
    go_enter Try.func64, Try.ntmps64
    go_wp2_with (first | (go_at_call 66; refine (mathnan_any _).mono ?_; rintro e w' ⟨rfl, rfl⟩) | (go_at_call 78; refine (FX.out _).mono ?_; rintro e w' ⟨rfl, rfl⟩))
    go_ret
    exact ⟨rfl, Below.refl _ _⟩

theorem spansround_any (o : Int) (x y : Nat) (up : Bool) (hwx : Wd x) (hwy : Wd y) (w : World) :
    Calls Try.prog 35 #[.int .i64 o, .float .f64 x, .float .f64 y, .bool up] w fun e w' => e = .returned (.float .f64 (roundW o x y up)) ∧ Below w.heap.size w w' := by
  go_enter Try.func35, Try.ntmps35
  go_wp2_with (go_at_call 64; refine (fpround_any _ _ _ _ hwx hwy _).mono ?_; rintro e w1 ⟨rfl, hbw1⟩; skip)
  go_ret
  exact ⟨rfl, hbw1⟩

end Go.Proofs.Yteephgpefhodnaa
