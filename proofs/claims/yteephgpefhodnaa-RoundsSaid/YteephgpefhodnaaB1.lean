/- The program's sum: rounded down and up. -/
import Derived.Test.YteephgpefhodnaaA3
import Derived.Test.YteephgpefhodnaaF7
namespace Go.Proofs.Yteephgpefhodnaa
open Go.RowKit Go.Sort Go.Fl
set_option linter.unusedSimpArgs false
set_option linter.unusedVariables false

theorem isinf0_any (x : Nat) (hx : ¬ nan x) (hw : Wd x) (w : World) :
    Calls Try.prog 49 #[.float .f64 x, .int .i64 0] w fun e w' => e = .returned (.bool (decide (key x = PI) || decide (key x = -PI))) ∧ w = w' := by
  have h1 := (Rg_key hx).1; have h2 := (Rg_key hx).2; have h3 := PI_pos
  have hm : ¬ nan 9218868437227405311 := by decide
  have hk : key 9218868437227405311 = PI - 1 := by decide
  have hn : ¬ nan (absw x) := by rw [nn_absw]; exact hx
  have hb : (FloatKind.f64.format.order (absw x) 9218868437227405311 == some .gt) = (decide (key x = PI) || decide (key x = -PI)) := by
    rw [o_gt hn hm, hk, key_absw, ← Bool.decide_or]
    refine decide_eq_decide.2 ?_
    split <;> omega
  clear hm hk
  go_enter Try.func49, Try.ntmps49
  go_wp2_with (go_at_call 75; refine (mathabs_any _ hw _).mono ?_; rintro e w' ⟨rfl, rfl⟩)
  go_ret
  exact ⟨rfl, rfl⟩
theorem copysign_neg (x : Nat) (hx : Wd x) (s : Int) (hs : Rg s) (h0 : s < 0) (w : World) :
    Calls Try.prog 97 #[.float .f64 x, .float .f64 (ofKey (s))] w fun e w' => e = .returned (.float .f64 (2 ^ 63 + absw x)) ∧ w = w' := by
  have hws := ofKey_lt hs
  have hlt : 2 ^ 63 < ofKey s := (key_neg' (x := ofKey s) hws (by rw [key_ofKey hs]; exact h0)).1
  have h := run_frombits
  have h' := run_tobits
  have h2 := u64_top x hx
  have h3 := u64_sign (ofKey s) hws
  rw [show ofKey s / 2 ^ 63 = 1 by omega] at h3
  have h4 := u64_or_low (absw x) 1 (Nat.mod_lt _ (by omega)) (by omega)
  have H4 := Lib.hid h4
  clear h4
  generalize hq : (1 * 2 ^ 63 : Nat) = q at h3
  go_enter Try.func97, Try.ntmps97
  go_wp2
  go_ret
  refine ⟨?_, rfl⟩
  show Ending.returned (.float .f64 _) = _
  rw [← hq]
  congr 2
  have := H4.out
  rw [this]
  omega

theorem max_words : absw 9218868437227405311 = ofKey (PI - 1) ∧ 2 ^ 63 + absw 9218868437227405311 = ofKey (1 - PI) := ⟨by decide, by decide⟩

/-- The sum, rounded. -/
noncomputable def addK (x y : Int) (up : Bool) : Int := rnd up (cAdd x y)

theorem cAdd_comm (x y : Int) : cAdd x y = cAdd y x := by funext k; unfold cAdd; omega

/-- What the tail of Add answers when the sum is infinite; when it is finite. -/
theorem add_inf_val {x y s : Int} {up : Bool} (h : Near s (V x + V y) 1) (hs : s = PI ∨ s = -PI) : addK x y up = if (decide (0 < s) == up) = true then s else if 0 < s then PI - 1 else 1 - PI :=
  rnd_eq (cut_add _ _) (sum_inf h hs up)
theorem add_fin_val {x y s r : Int} {up : Bool} (h : Near s (V x + V y) 1) (h1 : -PI < s) (h2 : s < PI) (hr : Near r (V y - (V s - V x)) 1) :
    addK x y up = if 0 < r ∧ up = true then s + 1 else if r < 0 ∧ up = false then s - 1 else s := by
  obtain ⟨a, b⟩ := rest_sign hr
  rw [show V y - (V s - V x) = V x + V y - V s by omega] at a b
  have := rnd_eq (cut_add _ _) (sum_fin h h1 h2 up)
  unfold addK
  rw [this]
  simp only [a, b]

set_option maxHeartbeats 1000000 in
theorem fpadd_big (x y : Nat) (up : Bool) (hx : fin x) (hy : fin y) (hwx : Wd x) (hwy : Wd y) (d : decide (key (absw x) < key (absw y)) = false) (w : World) :
    Calls Try.prog 83 #[.float .f64 x, .float .f64 y, .bool up] w fun e w' => e = .returned (.float .f64 (ofKey (addK (key x) (key y) up))) ∧ w = w' := by
  have hP := PI_pos
  have nx : ¬ nan x := by unfold nan; unfold fin at hx; omega
  have ny : ¬ nan y := by unfold nan; unfold fin at hy; omega
  have nax : ¬ nan (absw x) := by rw [nn_absw]; exact nx
  have nay : ¬ nan (absw y) := by rw [nn_absw]; exact ny
  obtain ⟨s, hs1, hsn, hsw, hN⟩ := add_fin hx hy
  have hsw : Wd s := hsw
  have rs := fun (w : World) (t : TypeId) => run_float_arith (P := Try.prog) w .add t .f64 x y s hs1
  clear hs1
  by_cases hi : key s = PI ∨ key s = -PI
  · have hword : s = ofKey (key s) := word_of_key hsw (by omega)
    have hv := add_inf_val (up := up) hN hi
    clear hN
    have rPI := Rg_PI
    have rMI := Rg_MI
    rcases hi with hi | hi
    · rw [hi] at hword hv
      subst hword
      have dp : decide (0 < PI) = true := decide_eq_true (by omega)
      clear hi
      cases up
      · rw [show addK (key x) (key y) false = PI - 1 by rw [hv, dp]; simp; omega]
        clear hv
        go_enter Try.func83, Try.ntmps83
        go_wp2_with (first | (go_at_call 75; refine (mathabs_any _ (by assumption) _).mono ?_; rintro e w' ⟨rfl, rfl⟩) | (go_at_call 49; refine (isinf0_any _ (by assumption) (by assumption) _).mono ?_; rintro e w' ⟨rfl, rfl⟩) | (go_at_call 97; refine (copysign_pos _ (by unfold Wd; omega) _ (by assumption) (by omega) _).mono ?_; rintro e w' ⟨rfl, rfl⟩) | (go_at_call 97; refine (copysign_neg _ (by unfold Wd; omega) _ (by assumption) (by omega) _).mono ?_; rintro e w' ⟨rfl, rfl⟩))
        go_ret
        exact ⟨by rw [← max_words.1]; rfl, rfl⟩
      · rw [show addK (key x) (key y) true = PI by rw [hv, dp]; simp]
        clear hv
        go_enter Try.func83, Try.ntmps83
        go_wp2_with (first | (go_at_call 75; refine (mathabs_any _ (by assumption) _).mono ?_; rintro e w' ⟨rfl, rfl⟩) | (go_at_call 49; refine (isinf0_any _ (by assumption) (by assumption) _).mono ?_; rintro e w' ⟨rfl, rfl⟩) | (go_at_call 97; refine (copysign_pos _ (by unfold Wd; omega) _ (by assumption) (by omega) _).mono ?_; rintro e w' ⟨rfl, rfl⟩) | (go_at_call 97; refine (copysign_neg _ (by unfold Wd; omega) _ (by assumption) (by omega) _).mono ?_; rintro e w' ⟨rfl, rfl⟩))
        go_ret
        exact ⟨rfl, rfl⟩
    · rw [hi] at hword hv
      subst hword
      have dp : decide (0 < -PI) = false := decide_eq_false (by omega)
      clear hi
      cases up
      · rw [show addK (key x) (key y) false = -PI by rw [hv, dp]; simp]
        clear hv
        go_enter Try.func83, Try.ntmps83
        go_wp2_with (first | (go_at_call 75; refine (mathabs_any _ (by assumption) _).mono ?_; rintro e w' ⟨rfl, rfl⟩) | (go_at_call 49; refine (isinf0_any _ (by assumption) (by assumption) _).mono ?_; rintro e w' ⟨rfl, rfl⟩) | (go_at_call 97; refine (copysign_pos _ (by unfold Wd; omega) _ (by assumption) (by omega) _).mono ?_; rintro e w' ⟨rfl, rfl⟩) | (go_at_call 97; refine (copysign_neg _ (by unfold Wd; omega) _ (by assumption) (by omega) _).mono ?_; rintro e w' ⟨rfl, rfl⟩))
        go_ret
        exact ⟨rfl, rfl⟩
      · rw [show addK (key x) (key y) true = 1 - PI by rw [hv, dp]; simp; omega]
        clear hv
        go_enter Try.func83, Try.ntmps83
        go_wp2_with (first | (go_at_call 75; refine (mathabs_any _ (by assumption) _).mono ?_; rintro e w' ⟨rfl, rfl⟩) | (go_at_call 49; refine (isinf0_any _ (by assumption) (by assumption) _).mono ?_; rintro e w' ⟨rfl, rfl⟩) | (go_at_call 97; refine (copysign_pos _ (by unfold Wd; omega) _ (by assumption) (by omega) _).mono ?_; rintro e w' ⟨rfl, rfl⟩) | (go_at_call 97; refine (copysign_neg _ (by unfold Wd; omega) _ (by assumption) (by omega) _).mono ?_; rintro e w' ⟨rfl, rfl⟩))
        go_ret
        exact ⟨by rw [← max_words.2]; rfl, rfl⟩
  · have s1 : -PI < key s := by have := (Rg_key hsn).1; omega
    have s2 : key s < PI := by have := (Rg_key hsn).2; omega
    have fs : fin s := fin_key.2 ⟨s1, s2⟩
    have hxk := fin_key.1 hx
    have hyk := fin_key.1 hy
    have hIP := PI_INF
    have hle : (key y).natAbs ≤ (key x).natAbs := by
      have e := of_decide_eq_false d
      rw [key_absw, key_absw] at e
      split at e <;> split at e <;> omega
    obtain ⟨t, t1, t2, ht⟩ := first_exact (by omega) hle hN (by omega) (by omega)
    obtain ⟨r1, hr1, nr1, wr1, N1⟩ := sub_fin fs hx
    have k1 : key r1 = t := near_exact N1 t1 t2 (by rw [ht, Int.mul_one])
    have fr1 : fin r1 := fin_key.2 (by rw [k1]; exact ⟨t1, t2⟩)
    obtain ⟨r2, hr2, nr2, wr2, N2⟩ := sub_fin hy fr1
    rw [k1, ht] at N2
    have hv := add_fin_val (up := up) hN s1 s2 N2
    have q1 := fun (w : World) (t : TypeId) => run_float_arith (P := Try.prog) w .sub t .f64 s x r1 hr1
    have q2 := fun (w : World) (t : TypeId) => run_float_arith (P := Try.prog) w .sub t .f64 y r1 r2 hr2
    have d0 : decide (key s = PI) = false := decide_eq_false (by omega)
    have d1 : decide (key s = -PI) = false := decide_eq_false (by omega)
    clear N1 N2 hN k1 fr1 ht t1 t2 hle hxk hyk fs hr1 hr2 t
    cases up
    · by_cases hp : key r2 < 0
      · have hu : upK (-key s) = -key s + 1 := by unfold upK; rw [if_pos (by omega)]
        have hc := fpup_any (Op.negFloat .f64 s) (by rw [nn_neg hsw]; exact hsn) (wd_neg hsw)
        rw [k_neg hsw, hu] at hc
        have DNC := Lib.hid hc
        have ru : Rg (-key s + 1) := ⟨by omega, by omega⟩
        have dp : decide (key r2 < 0) = true := decide_eq_true hp
        have dq : decide (0 < key r2) = false := decide_eq_false (by omega)
        rw [show addK (key x) (key y) false = -(-key s + 1) by rw [hv, if_neg (by simp), if_pos ⟨hp, rfl⟩]; omega]
        clear hv hc hu hp
        go_enter Try.func83, Try.ntmps83
        go_wp2_with (first | (go_at_call 75; refine (mathabs_any _ (by assumption) _).mono ?_; rintro e w' ⟨rfl, rfl⟩) | (go_at_call 49; refine (isinf0_any _ (by assumption) (by assumption) _).mono ?_; rintro e w' ⟨rfl, rfl⟩) | (go_at_call 48; refine (DNC.out _).mono ?_; rintro e w' ⟨rfl, rfl⟩))
        go_ret
        exact ⟨rfl, rfl⟩
      · have dp : decide (key r2 < 0) = false := decide_eq_false hp
        rw [show addK (key x) (key y) false = key s by rw [hv, if_neg (by simp), if_neg (by intro h; exact hp h.1)]]
        clear hv hp
        go_enter Try.func83, Try.ntmps83
        go_wp2_with (first | (go_at_call 75; refine (mathabs_any _ (by assumption) _).mono ?_; rintro e w' ⟨rfl, rfl⟩) | (go_at_call 49; refine (isinf0_any _ (by assumption) (by assumption) _).mono ?_; rintro e w' ⟨rfl, rfl⟩))
        all_goals go_ret
        all_goals exact ⟨rfl, rfl⟩
    · by_cases hp : 0 < key r2
      · have hu : upK (key s) = key s + 1 := by unfold upK; rw [if_pos (by omega)]
        have hc := fpup_any s hsn hsw
        rw [hu] at hc
        have UPC := Lib.hid hc
        have dp : decide (0 < key r2) = true := decide_eq_true hp
        rw [show addK (key x) (key y) true = key s + 1 by rw [hv, if_pos ⟨hp, rfl⟩]]
        clear hv hc hu hp
        go_enter Try.func83, Try.ntmps83
        go_wp2_with (first | (go_at_call 75; refine (mathabs_any _ (by assumption) _).mono ?_; rintro e w' ⟨rfl, rfl⟩) | (go_at_call 49; refine (isinf0_any _ (by assumption) (by assumption) _).mono ?_; rintro e w' ⟨rfl, rfl⟩) | (go_at_call 48; refine (UPC.out _).mono ?_; rintro e w' ⟨rfl, rfl⟩))
        go_ret
        exact ⟨rfl, rfl⟩
      · have dp : decide (0 < key r2) = false := decide_eq_false hp
        rw [show addK (key x) (key y) true = key s by rw [hv, if_neg (by intro h; exact hp h.1), if_neg (by simp)]]
        clear hv hp
        go_enter Try.func83, Try.ntmps83
        go_wp2_with (first | (go_at_call 75; refine (mathabs_any _ (by assumption) _).mono ?_; rintro e w' ⟨rfl, rfl⟩) | (go_at_call 49; refine (isinf0_any _ (by assumption) (by assumption) _).mono ?_; rintro e w' ⟨rfl, rfl⟩))
        all_goals go_ret
        all_goals exact ⟨rfl, rfl⟩

set_option maxHeartbeats 1000000 in
theorem fpadd_small (x y : Nat) (up : Bool) (hx : fin x) (hy : fin y) (hwx : Wd x) (hwy : Wd y) (d : decide (key (absw x) < key (absw y)) = true) (w : World) :
    Calls Try.prog 83 #[.float .f64 x, .float .f64 y, .bool up] w fun e w' => e = .returned (.float .f64 (ofKey (addK (key x) (key y) up))) ∧ w = w' := by
  rw [show addK (key x) (key y) up = addK (key y) (key x) up by unfold addK; rw [cAdd_comm]]
  have hP := PI_pos
  have ny : ¬ nan y := by unfold nan; unfold fin at hy; omega
  have nx : ¬ nan x := by unfold nan; unfold fin at hx; omega
  have nay : ¬ nan (absw y) := by rw [nn_absw]; exact ny
  have nax : ¬ nan (absw x) := by rw [nn_absw]; exact nx
  obtain ⟨s, hs1, hsn, hsw, hN⟩ := add_fin hy hx
  have hsw : Wd s := hsw
  have rs := fun (w : World) (t : TypeId) => run_float_arith (P := Try.prog) w .add t .f64 y x s hs1
  clear hs1
  by_cases hi : key s = PI ∨ key s = -PI
  · have hword : s = ofKey (key s) := word_of_key hsw (by omega)
    have hv := add_inf_val (up := up) hN hi
    clear hN
    have rPI := Rg_PI
    have rMI := Rg_MI
    rcases hi with hi | hi
    · rw [hi] at hword hv
      subst hword
      have dp : decide (0 < PI) = true := decide_eq_true (by omega)
      clear hi
      cases up
      · rw [show addK (key y) (key x) false = PI - 1 by rw [hv, dp]; simp; omega]
        clear hv
        go_enter Try.func83, Try.ntmps83
        go_wp2_with (first | (go_at_call 75; refine (mathabs_any _ (by assumption) _).mono ?_; rintro e w' ⟨rfl, rfl⟩) | (go_at_call 49; refine (isinf0_any _ (by assumption) (by assumption) _).mono ?_; rintro e w' ⟨rfl, rfl⟩) | (go_at_call 97; refine (copysign_pos _ (by unfold Wd; omega) _ (by assumption) (by omega) _).mono ?_; rintro e w' ⟨rfl, rfl⟩) | (go_at_call 97; refine (copysign_neg _ (by unfold Wd; omega) _ (by assumption) (by omega) _).mono ?_; rintro e w' ⟨rfl, rfl⟩))
        go_ret
        exact ⟨by rw [← max_words.1]; rfl, rfl⟩
      · rw [show addK (key y) (key x) true = PI by rw [hv, dp]; simp]
        clear hv
        go_enter Try.func83, Try.ntmps83
        go_wp2_with (first | (go_at_call 75; refine (mathabs_any _ (by assumption) _).mono ?_; rintro e w' ⟨rfl, rfl⟩) | (go_at_call 49; refine (isinf0_any _ (by assumption) (by assumption) _).mono ?_; rintro e w' ⟨rfl, rfl⟩) | (go_at_call 97; refine (copysign_pos _ (by unfold Wd; omega) _ (by assumption) (by omega) _).mono ?_; rintro e w' ⟨rfl, rfl⟩) | (go_at_call 97; refine (copysign_neg _ (by unfold Wd; omega) _ (by assumption) (by omega) _).mono ?_; rintro e w' ⟨rfl, rfl⟩))
        go_ret
        exact ⟨rfl, rfl⟩
    · rw [hi] at hword hv
      subst hword
      have dp : decide (0 < -PI) = false := decide_eq_false (by omega)
      clear hi
      cases up
      · rw [show addK (key y) (key x) false = -PI by rw [hv, dp]; simp]
        clear hv
        go_enter Try.func83, Try.ntmps83
        go_wp2_with (first | (go_at_call 75; refine (mathabs_any _ (by assumption) _).mono ?_; rintro e w' ⟨rfl, rfl⟩) | (go_at_call 49; refine (isinf0_any _ (by assumption) (by assumption) _).mono ?_; rintro e w' ⟨rfl, rfl⟩) | (go_at_call 97; refine (copysign_pos _ (by unfold Wd; omega) _ (by assumption) (by omega) _).mono ?_; rintro e w' ⟨rfl, rfl⟩) | (go_at_call 97; refine (copysign_neg _ (by unfold Wd; omega) _ (by assumption) (by omega) _).mono ?_; rintro e w' ⟨rfl, rfl⟩))
        go_ret
        exact ⟨rfl, rfl⟩
      · rw [show addK (key y) (key x) true = 1 - PI by rw [hv, dp]; simp; omega]
        clear hv
        go_enter Try.func83, Try.ntmps83
        go_wp2_with (first | (go_at_call 75; refine (mathabs_any _ (by assumption) _).mono ?_; rintro e w' ⟨rfl, rfl⟩) | (go_at_call 49; refine (isinf0_any _ (by assumption) (by assumption) _).mono ?_; rintro e w' ⟨rfl, rfl⟩) | (go_at_call 97; refine (copysign_pos _ (by unfold Wd; omega) _ (by assumption) (by omega) _).mono ?_; rintro e w' ⟨rfl, rfl⟩) | (go_at_call 97; refine (copysign_neg _ (by unfold Wd; omega) _ (by assumption) (by omega) _).mono ?_; rintro e w' ⟨rfl, rfl⟩))
        go_ret
        exact ⟨by rw [← max_words.2]; rfl, rfl⟩
  · have s1 : -PI < key s := by have := (Rg_key hsn).1; omega
    have s2 : key s < PI := by have := (Rg_key hsn).2; omega
    have fs : fin s := fin_key.2 ⟨s1, s2⟩
    have hyk := fin_key.1 hy
    have hxk := fin_key.1 hx
    have hIP := PI_INF
    have hle : (key x).natAbs ≤ (key y).natAbs := by
      have e := of_decide_eq_true d
      rw [key_absw, key_absw] at e
      split at e <;> split at e <;> omega
    obtain ⟨t, t1, t2, ht⟩ := first_exact (by omega) hle hN (by omega) (by omega)
    obtain ⟨r1, hr1, nr1, wr1, N1⟩ := sub_fin fs hy
    have k1 : key r1 = t := near_exact N1 t1 t2 (by rw [ht, Int.mul_one])
    have fr1 : fin r1 := fin_key.2 (by rw [k1]; exact ⟨t1, t2⟩)
    obtain ⟨r2, hr2, nr2, wr2, N2⟩ := sub_fin hx fr1
    rw [k1, ht] at N2
    have hv := add_fin_val (up := up) hN s1 s2 N2
    have q1 := fun (w : World) (t : TypeId) => run_float_arith (P := Try.prog) w .sub t .f64 s y r1 hr1
    have q2 := fun (w : World) (t : TypeId) => run_float_arith (P := Try.prog) w .sub t .f64 x r1 r2 hr2
    have d0 : decide (key s = PI) = false := decide_eq_false (by omega)
    have d1 : decide (key s = -PI) = false := decide_eq_false (by omega)
    clear N1 N2 hN k1 fr1 ht t1 t2 hle hyk hxk fs hr1 hr2 t
    cases up
    · by_cases hp : key r2 < 0
      · have hu : upK (-key s) = -key s + 1 := by unfold upK; rw [if_pos (by omega)]
        have hc := fpup_any (Op.negFloat .f64 s) (by rw [nn_neg hsw]; exact hsn) (wd_neg hsw)
        rw [k_neg hsw, hu] at hc
        have DNC := Lib.hid hc
        have ru : Rg (-key s + 1) := ⟨by omega, by omega⟩
        have dp : decide (key r2 < 0) = true := decide_eq_true hp
        have dq : decide (0 < key r2) = false := decide_eq_false (by omega)
        rw [show addK (key y) (key x) false = -(-key s + 1) by rw [hv, if_neg (by simp), if_pos ⟨hp, rfl⟩]; omega]
        clear hv hc hu hp
        go_enter Try.func83, Try.ntmps83
        go_wp2_with (first | (go_at_call 75; refine (mathabs_any _ (by assumption) _).mono ?_; rintro e w' ⟨rfl, rfl⟩) | (go_at_call 49; refine (isinf0_any _ (by assumption) (by assumption) _).mono ?_; rintro e w' ⟨rfl, rfl⟩) | (go_at_call 48; refine (DNC.out _).mono ?_; rintro e w' ⟨rfl, rfl⟩))
        go_ret
        exact ⟨rfl, rfl⟩
      · have dp : decide (key r2 < 0) = false := decide_eq_false hp
        rw [show addK (key y) (key x) false = key s by rw [hv, if_neg (by simp), if_neg (by intro h; exact hp h.1)]]
        clear hv hp
        go_enter Try.func83, Try.ntmps83
        go_wp2_with (first | (go_at_call 75; refine (mathabs_any _ (by assumption) _).mono ?_; rintro e w' ⟨rfl, rfl⟩) | (go_at_call 49; refine (isinf0_any _ (by assumption) (by assumption) _).mono ?_; rintro e w' ⟨rfl, rfl⟩))
        all_goals go_ret
        all_goals exact ⟨rfl, rfl⟩
    · by_cases hp : 0 < key r2
      · have hu : upK (key s) = key s + 1 := by unfold upK; rw [if_pos (by omega)]
        have hc := fpup_any s hsn hsw
        rw [hu] at hc
        have UPC := Lib.hid hc
        have dp : decide (0 < key r2) = true := decide_eq_true hp
        rw [show addK (key y) (key x) true = key s + 1 by rw [hv, if_pos ⟨hp, rfl⟩]]
        clear hv hc hu hp
        go_enter Try.func83, Try.ntmps83
        go_wp2_with (first | (go_at_call 75; refine (mathabs_any _ (by assumption) _).mono ?_; rintro e w' ⟨rfl, rfl⟩) | (go_at_call 49; refine (isinf0_any _ (by assumption) (by assumption) _).mono ?_; rintro e w' ⟨rfl, rfl⟩) | (go_at_call 48; refine (UPC.out _).mono ?_; rintro e w' ⟨rfl, rfl⟩))
        go_ret
        exact ⟨rfl, rfl⟩
      · have dp : decide (0 < key r2) = false := decide_eq_false hp
        rw [show addK (key y) (key x) true = key s by rw [hv, if_neg (by intro h; exact hp h.1), if_neg (by simp)]]
        clear hv hp
        go_enter Try.func83, Try.ntmps83
        go_wp2_with (first | (go_at_call 75; refine (mathabs_any _ (by assumption) _).mono ?_; rintro e w' ⟨rfl, rfl⟩) | (go_at_call 49; refine (isinf0_any _ (by assumption) (by assumption) _).mono ?_; rintro e w' ⟨rfl, rfl⟩))
        all_goals go_ret
        all_goals exact ⟨rfl, rfl⟩

theorem fpadd_any (x y : Nat) (up : Bool) (hx : fin x) (hy : fin y) (hwx : Wd x) (hwy : Wd y) (w : World) :
    Calls Try.prog 83 #[.float .f64 x, .float .f64 y, .bool up] w fun e w' => e = .returned (.float .f64 (ofKey (addK (key x) (key y) up))) ∧ w = w' := by
  cases d : decide (key (absw x) < key (absw y))
  · exact fpadd_big x y up hx hy hwx hwy d w
  · exact fpadd_small x y up hx hy hwx hwy d w

end Go.Proofs.Yteephgpefhodnaa
