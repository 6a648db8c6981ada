/- The document's Round: lower, upper. -/
import Derived.Test.YteephgpefhodnaaQ12
import Derived.Test.YteephgpefhodnaaA3
import Derived.Test.YteephgpefhodnaaF17
import Derived.LoopTactic
namespace Go.Proofs.Yteephgpefhodnaa
open Go.RowKit Go.Sort Go.Fl
set_option linter.unusedSimpArgs false
set_option linter.unusedVariables false

theorem refsub_self {x : Nat} (hx : fin x) : ∃ r, FloatKind.f64.format.sub x x = some r ∧ ¬ nan r ∧ Wd r ∧ key r = 0 := by
  obtain ⟨r, h1, h2, h3, h4⟩ := sub_fin hx hx
  exact ⟨r, h1, h2, h3, near_exact h4 (by decide) (by decide) (by rw [V_zero]; omega)⟩
open Ieee in
theorem refsub_no {x : Nat} (hx : ¬ fin x) : FloatKind.f64.format.sub x x = none := by
  rw [fmt]
  unfold Format.sub
  by_cases h : nan x
  · obtain ⟨t, ht⟩ := read_nan h; rw [ht]; rfl
  · have hi : rung x = INF := by unfold nan at h; unfold fin at hx; omega
    rw [read_inf hi]
    cases neg x <;> rfl
theorem reffin_yes (x : Nat) (hx : fin x) (w : World) :
    Calls Try.prog 65 #[.float .f64 x] w fun e w' => e = .returned (.bool true) ∧ Below w.heap.size w w' := by
  obtain ⟨r, h1, h2, h3, h4⟩ := refsub_self hx
  have hs := fun (w : World) (t : TypeId) => run_float_arith (P := Try.prog) w .sub t .f64 x x r h1
  go_enter Try.func65, Try.ntmps65
  go_wp2
  go_ret
  exact ⟨rfl, Below.refl _ _⟩
theorem reffin_no (x : Nat) (hx : ¬ fin x) (w : World) :
    Calls Try.prog 65 #[.float .f64 x] w fun e w' => e = .returned (.bool false) ∧ Below w.heap.size w w' := by
  have hs : ∀ (w : World) (t : TypeId), (binOp .sub t (.float .f64 x) (.float .f64 x)).run Try.prog w = .ok (.float .f64 (nanw w x x)) w.drew := fun w t => by
    simp [binOp, Op.floatArith, refsub_no hx, Question.forced, nanw]
  go_enter Try.func65, Try.ntmps65
  go_wp2
  go_ret
  exact ⟨rfl, ⟨rfl, rfl, rfl, Nat.le_refl _, fun _ _ => rfl⟩⟩
theorem sgn_nn {z : Int} (h : 0 ≤ z) : 0 ≤ z.sign := Int.sign_nonneg_iff.2 h
theorem sgn_ng {z : Int} (h : ¬ 0 ≤ z) : z.sign < 0 := by rw [Int.sign_eq_neg_one_of_neg (by omega)]; omega
theorem sgn_np {z : Int} (h : z ≤ 0) : z.sign ≤ 0 := by
  rcases Int.lt_trichotomy z 0 with g | g | g
  · rw [Int.sign_eq_neg_one_of_neg g]; omega
  · rw [g]; decide
  · omega
theorem sgn_ps {z : Int} (h : ¬ z ≤ 0) : 0 < z.sign := by rw [Int.sign_eq_one_of_pos (by omega)]; omega
theorem c_down {x : Nat} (hx : fin x) (wx : Wd x) (w : World) : Calls Try.prog 22 #[.float .f64 x] w fun e w' => e = .returned (.float .f64 (ofKey (key x - 1))) ∧ w = w' := by
  have hn : ¬ nan x := by unfold nan; unfold fin at hx; omega
  have hk := fin_key.1 hx
  have hPI : PI = (INF : Int) := rfl
  have := refdown_any x hn wx w
  rw [show downK (key x) = key x - 1 by unfold downK upK; rw [if_pos (by omega)]; omega] at this
  exact this
theorem c_up {x : Nat} (hx : fin x) (wx : Wd x) (w : World) : Calls Try.prog 21 #[.float .f64 x] w fun e w' => e = .returned (.float .f64 (ofKey (key x + 1))) ∧ w = w' := by
  have hn : ¬ nan x := by unfold nan; unfold fin at hx; omega
  have hk := fin_key.1 hx
  have hPI : PI = (INF : Int) := rfl
  have := refup_any x hn wx w
  rw [show upK (key x) = key x + 1 by unfold upK; rw [if_pos (by omega)]] at this
  exact this
def fkey : Value → Int
  | .float _ x => key x
  | _ => 0
set_option maxRecDepth 4000 in
set_option maxHeartbeats 4000000 in
theorem lower_any (o : Int) (x y : Nat) (cc : Int → Int) (hcut : Cut cc) (hnear : ∃ c : Nat, fin c ∧ Wd c ∧ ∀ w, Calls Try.prog 87 #[.int .i64 o, .float .f64 x, .float .f64 y] w fun e w' => e = .returned (.float .f64 c) ∧ w = w')
    (hb0 : ∀ u : Nat, fin u → Wd u → ∀ w, Calls Try.prog 88 #[.int .i64 o, .float .f64 x, .float .f64 y, .float .f64 u] w fun e w' => e = .returned (.int .i64 (cc (key u)).sign) ∧ Below w.heap.size w w') (w : World) :
    Calls Try.prog 68 #[.int .i64 o, .float .f64 x, .float .f64 y] w fun e w' => e = .returned (.float .f64 (ofKey (rnd false cc))) ∧ Below w.heap.size w w' := by
  have hP := PI_pos
  have kk1 := most_key
  have kk2 := most_nn
  have kk3 := least_key
  have kk4 := least_nn
  have hbey := Lib.hid hb0
  obtain ⟨c0, f0, wd0, nr⟩ := hnear
  have NR := Lib.hid nr
  have n0 : ¬ nan c0 := by unfold nan; unfold fin at f0; omega
  have hk0 : -PI < key c0 ∧ key c0 < PI := fin_key.1 f0
  clear nr hb0
  go_enter Try.func68, Try.ntmps68
  go_wp2_with (go_at_call 87; refine (NR.out _).mono ?_; rintro e w' ⟨rfl, rfl⟩)
  go_loopw [7] (fun cv wr => ∃ cw : Nat, cv = .float .f64 cw ∧ ¬ nan cw ∧ Wd cw ∧ key cw < PI ∧ (key cw = -PI → cc (-PI + 1) < 0) ∧ Below w.heap.size w wr) (fun cv _ => (fkey cv + PI).toNat)
  case atStart => exact ⟨c0, rfl, n0, wd0, by omega, fun h => by omega, Below.refl _ _⟩
  case round =>
    obtain ⟨cw, rfl, hn, hw, hr, hb, hB⟩ := hrel
    have hlo := (Rg_key hn).1
    have hhi := (Rg_key hn).2
    by_cases hf : fin cw
    · have hk : -PI < key cw ∧ key cw < PI := fin_key.1 hf
      have FY := Lib.hid (fun w => reffin_yes cw hf w)
      have ST := Lib.hid (fun w => c_down hf hw w)
      have hbu := hbey.out _ hf hw
      obtain ⟨S, hS⟩ : ∃ S, S = (cc (key cw)).sign := ⟨_, rfl⟩
      rw [← hS] at hbu
      have BB := Lib.hid hbu
      clear hbu
      by_cases hc : 0 ≤ cc (key cw)
      · have hs : 0 ≤ S := by rw [hS]; exact sgn_nn hc
        have Hc := Lib.hid hc
        have Hb := Lib.hid hb
        clear hb hS hc
        go_wp2_with (first | (go_at_call 65; refine (FY.out _).mono ?_; rintro e wf ⟨rfl, hbf⟩; replace hB := below_step hB hB.size hbf; clear hbf) | (go_at_call 88; refine (BB.out _).mono ?_; rintro e wg ⟨rfl, hbg⟩; replace hB := below_step hB hB.size hbg; clear hbg))
        go_loopw [7] (fun cv wr => ∃ cw : Nat, cv = .float .f64 cw ∧ ¬ nan cw ∧ Wd cw ∧ key cw < PI ∧ (key cw = -PI → cc (-PI + 1) < 0) ∧ (key cw ≠ -PI → 0 ≤ cc (key cw)) ∧ Below w.heap.size w wr) (fun cv _ => (PI - fkey cv).toNat)
        case atStart => exact ⟨cw, rfl, hn, hw, hr, Hb.out, fun _ => Hc.out, hB⟩
        case round =>
          obtain ⟨cw, rfl, hn, hw, hr, hb, hg, hB⟩ := hrel
          have hlo := (Rg_key hn).1
          have hhi := (Rg_key hn).2
          have RES := Lib.hid (plain_any cw hn hw)
          by_cases hf : fin cw
          · have hk : -PI < key cw ∧ key cw < PI := fin_key.1 hf
            have FY := Lib.hid (fun w => reffin_yes cw hf w)
            by_cases hm : key cw < PI - 1
            · have ST := Lib.hid (fun w => c_up hf hw w)
              have ru : Rg (key cw + 1) := ⟨by omega, by omega⟩
              have fu : fin (ofKey (key cw + 1)) := fin_ofKey (by omega) (by omega)
              have hbu := hbey.out _ fu (ofKey_lt ru)
              rw [key_ofKey ru] at hbu
              obtain ⟨S, hS⟩ : ∃ S, S = (cc (key cw + 1)).sign := ⟨_, rfl⟩
              rw [← hS] at hbu
              have BB := Lib.hid hbu
              clear hbu
              by_cases hc : 0 ≤ cc (key cw + 1)
              · have hs : 0 ≤ S := by rw [hS]; exact sgn_nn hc
                have Hc := Lib.hid hc
                have Hb := Lib.hid hb
                clear hb hg hS hc
                go_wp2_with (first | (go_at_call 65; refine (FY.out _).mono ?_; rintro e wf ⟨rfl, hbf⟩; replace hB := below_step hB hB.size hbf; clear hbf) | (go_at_call 21; refine (ST.out _).mono ?_; rintro e w' ⟨rfl, rfl⟩) | (go_at_call 88; refine (BB.out _).mono ?_; rintro e wg ⟨rfl, hbg⟩; replace hB := below_step hB hB.size hbg; clear hbg))
                go_roundw
                case rel => exact ⟨_, rfl, not_nan_ofKey ru, ofKey_lt ru, by rw [key_ofKey ru]; omega, fun h => by rw [key_ofKey ru] at h; omega, fun _ => by rw [key_ofKey ru]; exact Hc.out, hB⟩
                case measure => simp only [fkey, key_ofKey ru]; omega
              · have hs : S < 0 := by rw [hS]; exact sgn_ng hc
                have hR : Rnd false cc (key cw) := ⟨by omega, by omega, fun h => hg h, fun h => by omega⟩
                clear hb hg hS hc
                go_wp2_with (first | (go_at_call 65; refine (FY.out _).mono ?_; rintro e wf ⟨rfl, hbf⟩; replace hB := below_step hB hB.size hbf; clear hbf) | (go_at_call 21; refine (ST.out _).mono ?_; rintro e w' ⟨rfl, rfl⟩) | (go_at_call 88; refine (BB.out _).mono ?_; rintro e wg ⟨rfl, hbg⟩; replace hB := below_step hB hB.size hbg; clear hbg) | (go_at_call 51; refine (RES.out _).mono ?_; rintro e w' ⟨rfl, rfl⟩))
                go_ret
                exact ⟨by rw [rnd_eq hcut hR]; first | rfl | (rw [hke]; rfl), hB⟩
            · have hR : Rnd false cc (key cw) := ⟨by omega, by omega, fun h => hg (by omega), fun h => by omega⟩
              clear hb hg
              go_wp2_with (first | (go_at_call 65; refine (FY.out _).mono ?_; rintro e wf ⟨rfl, hbf⟩; replace hB := below_step hB hB.size hbf; clear hbf) | (go_at_call 51; refine (RES.out _).mono ?_; rintro e w' ⟨rfl, rfl⟩))
              go_ret
              exact ⟨by rw [rnd_eq hcut hR]; first | rfl | (rw [hke]; rfl), hB⟩
          · have hke : key cw = -PI := by have hnf : ¬ (-PI < key cw ∧ key cw < PI) := fun h => hf (fin_key.2 h); omega
            have FY := Lib.hid (fun w => reffin_no cw hf w)
            have hbb := hb hke
            have hR : Rnd false cc (key cw) := by
              rw [hke]
              exact ⟨by omega, by omega, fun h => by omega, fun h => by simpa using hbb⟩
            clear hb hg hbb
            go_wp2_with (first | (go_at_call 65; refine (FY.out _).mono ?_; rintro e wf ⟨rfl, hbf⟩; replace hB := below_step hB hB.size hbf; clear hbf) | (go_at_call 51; refine (RES.out _).mono ?_; rintro e w' ⟨rfl, rfl⟩))
            go_ret
            exact ⟨by rw [rnd_eq hcut hR]; first | rfl | (rw [hke]; rfl), hB⟩
      · have hs : S < 0 := by rw [hS]; exact sgn_ng hc
        have ru : Rg (key cw - 1) := ⟨by omega, by omega⟩
        have Hc := Lib.hid hc
        clear hb hS hc
        go_wp2_with (first | (go_at_call 65; refine (FY.out _).mono ?_; rintro e wf ⟨rfl, hbf⟩; replace hB := below_step hB hB.size hbf; clear hbf) | (go_at_call 88; refine (BB.out _).mono ?_; rintro e wg ⟨rfl, hbg⟩; replace hB := below_step hB hB.size hbg; clear hbg) | (go_at_call 22; refine (ST.out _).mono ?_; rintro e w' ⟨rfl, rfl⟩))
        go_roundw
        case rel => exact ⟨_, rfl, not_nan_ofKey ru, ofKey_lt ru, by rw [key_ofKey ru]; omega, fun h => by rw [key_ofKey ru] at h; have e : key cw = -PI + 1 := (by omega); have := Hc.out; rw [e] at this; omega, hB⟩
        case measure => simp only [fkey, key_ofKey ru]; omega
    · have hke : key cw = -PI := by have hnf : ¬ (-PI < key cw ∧ key cw < PI) := fun h => hf (fin_key.2 h); omega
      have FY := Lib.hid (fun w => reffin_no cw hf w)
      have Hb := Lib.hid hb
      clear hb
      go_wp2_with (go_at_call 65; refine (FY.out _).mono ?_; rintro e wf ⟨rfl, hbf⟩; replace hB := below_step hB hB.size hbf; clear hbf)
      go_loopw [7] (fun cv wr => ∃ cw : Nat, cv = .float .f64 cw ∧ ¬ nan cw ∧ Wd cw ∧ key cw < PI ∧ (key cw = -PI → cc (-PI + 1) < 0) ∧ (key cw ≠ -PI → 0 ≤ cc (key cw)) ∧ Below w.heap.size w wr) (fun cv _ => (PI - fkey cv).toNat)
      case atStart => exact ⟨cw, rfl, hn, hw, hr, Hb.out, fun h => absurd hke h, hB⟩
      case round =>
        obtain ⟨cw, rfl, hn, hw, hr, hb, hg, hB⟩ := hrel
        have hlo := (Rg_key hn).1
        have hhi := (Rg_key hn).2
        have RES := Lib.hid (plain_any cw hn hw)
        by_cases hf : fin cw
        · have hk : -PI < key cw ∧ key cw < PI := fin_key.1 hf
          have FY := Lib.hid (fun w => reffin_yes cw hf w)
          by_cases hm : key cw < PI - 1
          · have ST := Lib.hid (fun w => c_up hf hw w)
            have ru : Rg (key cw + 1) := ⟨by omega, by omega⟩
            have fu : fin (ofKey (key cw + 1)) := fin_ofKey (by omega) (by omega)
            have hbu := hbey.out _ fu (ofKey_lt ru)
            rw [key_ofKey ru] at hbu
            obtain ⟨S, hS⟩ : ∃ S, S = (cc (key cw + 1)).sign := ⟨_, rfl⟩
            rw [← hS] at hbu
            have BB := Lib.hid hbu
            clear hbu
            by_cases hc : 0 ≤ cc (key cw + 1)
            · have hs : 0 ≤ S := by rw [hS]; exact sgn_nn hc
              have Hc := Lib.hid hc
              have Hb := Lib.hid hb
              clear hb hg hS hc
              go_wp2_with (first | (go_at_call 65; refine (FY.out _).mono ?_; rintro e wf ⟨rfl, hbf⟩; replace hB := below_step hB hB.size hbf; clear hbf) | (go_at_call 21; refine (ST.out _).mono ?_; rintro e w' ⟨rfl, rfl⟩) | (go_at_call 88; refine (BB.out _).mono ?_; rintro e wg ⟨rfl, hbg⟩; replace hB := below_step hB hB.size hbg; clear hbg))
              go_roundw
              case rel => exact ⟨_, rfl, not_nan_ofKey ru, ofKey_lt ru, by rw [key_ofKey ru]; omega, fun h => by rw [key_ofKey ru] at h; omega, fun _ => by rw [key_ofKey ru]; exact Hc.out, hB⟩
              case measure => simp only [fkey, key_ofKey ru]; omega
            · have hs : S < 0 := by rw [hS]; exact sgn_ng hc
              have hR : Rnd false cc (key cw) := ⟨by omega, by omega, fun h => hg h, fun h => by omega⟩
              clear hb hg hS hc
              go_wp2_with (first | (go_at_call 65; refine (FY.out _).mono ?_; rintro e wf ⟨rfl, hbf⟩; replace hB := below_step hB hB.size hbf; clear hbf) | (go_at_call 21; refine (ST.out _).mono ?_; rintro e w' ⟨rfl, rfl⟩) | (go_at_call 88; refine (BB.out _).mono ?_; rintro e wg ⟨rfl, hbg⟩; replace hB := below_step hB hB.size hbg; clear hbg) | (go_at_call 51; refine (RES.out _).mono ?_; rintro e w' ⟨rfl, rfl⟩))
              go_ret
              exact ⟨by rw [rnd_eq hcut hR]; first | rfl | (rw [hke]; rfl), hB⟩
          · have hR : Rnd false cc (key cw) := ⟨by omega, by omega, fun h => hg (by omega), fun h => by omega⟩
            clear hb hg
            go_wp2_with (first | (go_at_call 65; refine (FY.out _).mono ?_; rintro e wf ⟨rfl, hbf⟩; replace hB := below_step hB hB.size hbf; clear hbf) | (go_at_call 51; refine (RES.out _).mono ?_; rintro e w' ⟨rfl, rfl⟩))
            go_ret
            exact ⟨by rw [rnd_eq hcut hR]; first | rfl | (rw [hke]; rfl), hB⟩
        · have hke : key cw = -PI := by have hnf : ¬ (-PI < key cw ∧ key cw < PI) := fun h => hf (fin_key.2 h); omega
          have FY := Lib.hid (fun w => reffin_no cw hf w)
          have hbb := hb hke
          have hR : Rnd false cc (key cw) := by
            rw [hke]
            exact ⟨by omega, by omega, fun h => by omega, fun h => by simpa using hbb⟩
          clear hb hg hbb
          go_wp2_with (first | (go_at_call 65; refine (FY.out _).mono ?_; rintro e wf ⟨rfl, hbf⟩; replace hB := below_step hB hB.size hbf; clear hbf) | (go_at_call 51; refine (RES.out _).mono ?_; rintro e w' ⟨rfl, rfl⟩))
          go_ret
          exact ⟨by rw [rnd_eq hcut hR]; first | rfl | (rw [hke]; rfl), hB⟩
set_option maxRecDepth 4000 in
set_option maxHeartbeats 4000000 in
theorem upper_any (o : Int) (x y : Nat) (cc : Int → Int) (hcut : Cut cc) (hnear : ∃ c : Nat, fin c ∧ Wd c ∧ ∀ w, Calls Try.prog 87 #[.int .i64 o, .float .f64 x, .float .f64 y] w fun e w' => e = .returned (.float .f64 c) ∧ w = w')
    (hb0 : ∀ u : Nat, fin u → Wd u → ∀ w, Calls Try.prog 88 #[.int .i64 o, .float .f64 x, .float .f64 y, .float .f64 u] w fun e w' => e = .returned (.int .i64 (cc (key u)).sign) ∧ Below w.heap.size w w') (w : World) :
    Calls Try.prog 67 #[.int .i64 o, .float .f64 x, .float .f64 y] w fun e w' => e = .returned (.float .f64 (ofKey (rnd true cc))) ∧ Below w.heap.size w w' := by
  have hP := PI_pos
  have kk1 := most_key
  have kk2 := most_nn
  have kk3 := least_key
  have kk4 := least_nn
  have hbey := Lib.hid hb0
  obtain ⟨c0, f0, wd0, nr⟩ := hnear
  have NR := Lib.hid nr
  have n0 : ¬ nan c0 := by unfold nan; unfold fin at f0; omega
  have hk0 : -PI < key c0 ∧ key c0 < PI := fin_key.1 f0
  clear nr hb0
  go_enter Try.func67, Try.ntmps67
  go_wp2_with (go_at_call 87; refine (NR.out _).mono ?_; rintro e w' ⟨rfl, rfl⟩)
  go_loopw [7] (fun cv wr => ∃ cw : Nat, cv = .float .f64 cw ∧ ¬ nan cw ∧ Wd cw ∧ -PI < key cw ∧ (key cw = PI → 0 < cc (PI - 1)) ∧ Below w.heap.size w wr) (fun cv _ => (PI - fkey cv).toNat)
  case atStart => exact ⟨c0, rfl, n0, wd0, by omega, fun h => by omega, Below.refl _ _⟩
  case round =>
    obtain ⟨cw, rfl, hn, hw, hr, hb, hB⟩ := hrel
    have hlo := (Rg_key hn).1
    have hhi := (Rg_key hn).2
    by_cases hf : fin cw
    · have hk : -PI < key cw ∧ key cw < PI := fin_key.1 hf
      have FY := Lib.hid (fun w => reffin_yes cw hf w)
      have ST := Lib.hid (fun w => c_up hf hw w)
      have hbu := hbey.out _ hf hw
      obtain ⟨S, hS⟩ : ∃ S, S = (cc (key cw)).sign := ⟨_, rfl⟩
      rw [← hS] at hbu
      have BB := Lib.hid hbu
      clear hbu
      by_cases hc : cc (key cw) ≤ 0
      · have hs : S ≤ 0 := by rw [hS]; exact sgn_np hc
        have Hc := Lib.hid hc
        have Hb := Lib.hid hb
        clear hb hS hc
        go_wp2_with (first | (go_at_call 65; refine (FY.out _).mono ?_; rintro e wf ⟨rfl, hbf⟩; replace hB := below_step hB hB.size hbf; clear hbf) | (go_at_call 88; refine (BB.out _).mono ?_; rintro e wg ⟨rfl, hbg⟩; replace hB := below_step hB hB.size hbg; clear hbg))
        go_loopw [7] (fun cv wr => ∃ cw : Nat, cv = .float .f64 cw ∧ ¬ nan cw ∧ Wd cw ∧ -PI < key cw ∧ (key cw = PI → 0 < cc (PI - 1)) ∧ (key cw ≠ PI → cc (key cw) ≤ 0) ∧ Below w.heap.size w wr) (fun cv _ => (fkey cv + PI).toNat)
        case atStart => exact ⟨cw, rfl, hn, hw, hr, Hb.out, fun _ => Hc.out, hB⟩
        case round =>
          obtain ⟨cw, rfl, hn, hw, hr, hb, hg, hB⟩ := hrel
          have hlo := (Rg_key hn).1
          have hhi := (Rg_key hn).2
          have RES := Lib.hid (plain_any cw hn hw)
          by_cases hf : fin cw
          · have hk : -PI < key cw ∧ key cw < PI := fin_key.1 hf
            have FY := Lib.hid (fun w => reffin_yes cw hf w)
            by_cases hm : -(PI - 1) < key cw
            · have ST := Lib.hid (fun w => c_down hf hw w)
              have ru : Rg (key cw - 1) := ⟨by omega, by omega⟩
              have fu : fin (ofKey (key cw - 1)) := fin_ofKey (by omega) (by omega)
              have hbu := hbey.out _ fu (ofKey_lt ru)
              rw [key_ofKey ru] at hbu
              obtain ⟨S, hS⟩ : ∃ S, S = (cc (key cw - 1)).sign := ⟨_, rfl⟩
              rw [← hS] at hbu
              have BB := Lib.hid hbu
              clear hbu
              by_cases hc : cc (key cw - 1) ≤ 0
              · have hs : S ≤ 0 := by rw [hS]; exact sgn_np hc
                have Hc := Lib.hid hc
                have Hb := Lib.hid hb
                clear hb hg hS hc
                go_wp2_with (first | (go_at_call 65; refine (FY.out _).mono ?_; rintro e wf ⟨rfl, hbf⟩; replace hB := below_step hB hB.size hbf; clear hbf) | (go_at_call 22; refine (ST.out _).mono ?_; rintro e w' ⟨rfl, rfl⟩) | (go_at_call 88; refine (BB.out _).mono ?_; rintro e wg ⟨rfl, hbg⟩; replace hB := below_step hB hB.size hbg; clear hbg))
                go_roundw
                case rel => exact ⟨_, rfl, not_nan_ofKey ru, ofKey_lt ru, by rw [key_ofKey ru]; omega, fun h => by rw [key_ofKey ru] at h; omega, fun _ => by rw [key_ofKey ru]; exact Hc.out, hB⟩
                case measure => simp only [fkey, key_ofKey ru]; omega
              · have hs : 0 < S := by rw [hS]; exact sgn_ps hc
                have hR : Rnd true cc (key cw) := ⟨by omega, by omega, fun h => hg (by omega), fun h => by omega⟩
                clear hb hg hS hc
                go_wp2_with (first | (go_at_call 65; refine (FY.out _).mono ?_; rintro e wf ⟨rfl, hbf⟩; replace hB := below_step hB hB.size hbf; clear hbf) | (go_at_call 22; refine (ST.out _).mono ?_; rintro e w' ⟨rfl, rfl⟩) | (go_at_call 88; refine (BB.out _).mono ?_; rintro e wg ⟨rfl, hbg⟩; replace hB := below_step hB hB.size hbg; clear hbg) | (go_at_call 51; refine (RES.out _).mono ?_; rintro e w' ⟨rfl, rfl⟩))
                go_ret
                exact ⟨by rw [rnd_eq hcut hR]; first | rfl | (rw [hke]; rfl), hB⟩
            · have hR : Rnd true cc (key cw) := ⟨by omega, by omega, fun h => hg (by omega), fun h => by omega⟩
              clear hb hg
              go_wp2_with (first | (go_at_call 65; refine (FY.out _).mono ?_; rintro e wf ⟨rfl, hbf⟩; replace hB := below_step hB hB.size hbf; clear hbf) | (go_at_call 51; refine (RES.out _).mono ?_; rintro e w' ⟨rfl, rfl⟩))
              go_ret
              exact ⟨by rw [rnd_eq hcut hR]; first | rfl | (rw [hke]; rfl), hB⟩
          · have hke : key cw = PI := by have hnf : ¬ (-PI < key cw ∧ key cw < PI) := fun h => hf (fin_key.2 h); omega
            have FY := Lib.hid (fun w => reffin_no cw hf w)
            have hbb := hb hke
            have hR : Rnd true cc (key cw) := by
              rw [hke]
              exact ⟨by omega, by omega, fun h => by omega, fun h => by simpa using hbb⟩
            clear hb hg hbb
            go_wp2_with (first | (go_at_call 65; refine (FY.out _).mono ?_; rintro e wf ⟨rfl, hbf⟩; replace hB := below_step hB hB.size hbf; clear hbf) | (go_at_call 51; refine (RES.out _).mono ?_; rintro e w' ⟨rfl, rfl⟩))
            go_ret
            exact ⟨by rw [rnd_eq hcut hR]; first | rfl | (rw [hke]; rfl), hB⟩
      · have hs : 0 < S := by rw [hS]; exact sgn_ps hc
        have ru : Rg (key cw + 1) := ⟨by omega, by omega⟩
        have Hc := Lib.hid hc
        clear hb hS hc
        go_wp2_with (first | (go_at_call 65; refine (FY.out _).mono ?_; rintro e wf ⟨rfl, hbf⟩; replace hB := below_step hB hB.size hbf; clear hbf) | (go_at_call 88; refine (BB.out _).mono ?_; rintro e wg ⟨rfl, hbg⟩; replace hB := below_step hB hB.size hbg; clear hbg) | (go_at_call 21; refine (ST.out _).mono ?_; rintro e w' ⟨rfl, rfl⟩))
        go_roundw
        case rel => exact ⟨_, rfl, not_nan_ofKey ru, ofKey_lt ru, by rw [key_ofKey ru]; omega, fun h => by rw [key_ofKey ru] at h; have e : key cw = PI - 1 := (by omega); have := Hc.out; rw [e] at this; omega, hB⟩
        case measure => simp only [fkey, key_ofKey ru]; omega
    · have hke : key cw = PI := by have hnf : ¬ (-PI < key cw ∧ key cw < PI) := fun h => hf (fin_key.2 h); omega
      have FY := Lib.hid (fun w => reffin_no cw hf w)
      have Hb := Lib.hid hb
      clear hb
      go_wp2_with (go_at_call 65; refine (FY.out _).mono ?_; rintro e wf ⟨rfl, hbf⟩; replace hB := below_step hB hB.size hbf; clear hbf)
      go_loopw [7] (fun cv wr => ∃ cw : Nat, cv = .float .f64 cw ∧ ¬ nan cw ∧ Wd cw ∧ -PI < key cw ∧ (key cw = PI → 0 < cc (PI - 1)) ∧ (key cw ≠ PI → cc (key cw) ≤ 0) ∧ Below w.heap.size w wr) (fun cv _ => (fkey cv + PI).toNat)
      case atStart => exact ⟨cw, rfl, hn, hw, hr, Hb.out, fun h => absurd hke h, hB⟩
      case round =>
        obtain ⟨cw, rfl, hn, hw, hr, hb, hg, hB⟩ := hrel
        have hlo := (Rg_key hn).1
        have hhi := (Rg_key hn).2
        have RES := Lib.hid (plain_any cw hn hw)
        by_cases hf : fin cw
        · have hk : -PI < key cw ∧ key cw < PI := fin_key.1 hf
          have FY := Lib.hid (fun w => reffin_yes cw hf w)
          by_cases hm : -(PI - 1) < key cw
          · have ST := Lib.hid (fun w => c_down hf hw w)
            have ru : Rg (key cw - 1) := ⟨by omega, by omega⟩
            have fu : fin (ofKey (key cw - 1)) := fin_ofKey (by omega) (by omega)
            have hbu := hbey.out _ fu (ofKey_lt ru)
            rw [key_ofKey ru] at hbu
            obtain ⟨S, hS⟩ : ∃ S, S = (cc (key cw - 1)).sign := ⟨_, rfl⟩
            rw [← hS] at hbu
            have BB := Lib.hid hbu
            clear hbu
            by_cases hc : cc (key cw - 1) ≤ 0
            · have hs : S ≤ 0 := by rw [hS]; exact sgn_np hc
              have Hc := Lib.hid hc
              have Hb := Lib.hid hb
              clear hb hg hS hc
              go_wp2_with (first | (go_at_call 65; refine (FY.out _).mono ?_; rintro e wf ⟨rfl, hbf⟩; replace hB := below_step hB hB.size hbf; clear hbf) | (go_at_call 22; refine (ST.out _).mono ?_; rintro e w' ⟨rfl, rfl⟩) | (go_at_call 88; refine (BB.out _).mono ?_; rintro e wg ⟨rfl, hbg⟩; replace hB := below_step hB hB.size hbg; clear hbg))
              go_roundw
              case rel => exact ⟨_, rfl, not_nan_ofKey ru, ofKey_lt ru, by rw [key_ofKey ru]; omega, fun h => by rw [key_ofKey ru] at h; omega, fun _ => by rw [key_ofKey ru]; exact Hc.out, hB⟩
              case measure => simp only [fkey, key_ofKey ru]; omega
            · have hs : 0 < S := by rw [hS]; exact sgn_ps hc
              have hR : Rnd true cc (key cw) := ⟨by omega, by omega, fun h => hg (by omega), fun h => by omega⟩
              clear hb hg hS hc
              go_wp2_with (first | (go_at_call 65; refine (FY.out _).mono ?_; rintro e wf ⟨rfl, hbf⟩; replace hB := below_step hB hB.size hbf; clear hbf) | (go_at_call 22; refine (ST.out _).mono ?_; rintro e w' ⟨rfl, rfl⟩) | (go_at_call 88; refine (BB.out _).mono ?_; rintro e wg ⟨rfl, hbg⟩; replace hB := below_step hB hB.size hbg; clear hbg) | (go_at_call 51; refine (RES.out _).mono ?_; rintro e w' ⟨rfl, rfl⟩))
              go_ret
              exact ⟨by rw [rnd_eq hcut hR]; first | rfl | (rw [hke]; rfl), hB⟩
          · have hR : Rnd true cc (key cw) := ⟨by omega, by omega, fun h => hg (by omega), fun h => by omega⟩
            clear hb hg
            go_wp2_with (first | (go_at_call 65; refine (FY.out _).mono ?_; rintro e wf ⟨rfl, hbf⟩; replace hB := below_step hB hB.size hbf; clear hbf) | (go_at_call 51; refine (RES.out _).mono ?_; rintro e w' ⟨rfl, rfl⟩))
            go_ret
            exact ⟨by rw [rnd_eq hcut hR]; first | rfl | (rw [hke]; rfl), hB⟩
        · have hke : key cw = PI := by have hnf : ¬ (-PI < key cw ∧ key cw < PI) := fun h => hf (fin_key.2 h); omega
          have FY := Lib.hid (fun w => reffin_no cw hf w)
          have hbb := hb hke
          have hR : Rnd true cc (key cw) := by
            rw [hke]
            exact ⟨by omega, by omega, fun h => by omega, fun h => by simpa using hbb⟩
          clear hb hg hbb
          go_wp2_with (first | (go_at_call 65; refine (FY.out _).mono ?_; rintro e wf ⟨rfl, hbf⟩; replace hB := below_step hB hB.size hbf; clear hbf) | (go_at_call 51; refine (RES.out _).mono ?_; rintro e w' ⟨rfl, rfl⟩))
          go_ret
          exact ⟨by rw [rnd_eq hcut hR]; first | rfl | (rw [hke]; rfl), hB⟩
end Go.Proofs.Yteephgpefhodnaa
