/- The product, rounded down and up. -/
import Derived.Test.YteephgpefhodnaaB6
namespace Go.Proofs.Yteephgpefhodnaa
open Go.RowKit Go.Sort Go.Fl
set_option linter.unusedSimpArgs false
set_option linter.unusedVariables false

theorem signed_any (hi lo : Nat) (e : Int) (rest ng up : Bool) (r : Nat) (hr : r ≤ INF) (hnum : ∀ w, Calls Try.prog 127 #[.agg #[.int .u64 hi, .int .u64 lo, .int .i64 e, .bool rest], .bool (ng != up)] w fun e w' => e = .returned (.float .f64 r) ∧ Below w.heap.size w w') (w : World) :
    Calls Try.prog 101 #[.agg #[.int .u64 hi, .int .u64 lo, .int .i64 e, .bool rest], .bool ng, .bool up] w fun e w' => e = .returned (.float .f64 (ofKey (if ng = true then -(r : Int) else (r : Int)))) ∧ Below w.heap.size w w' := by
  have hrg : Rg (r : Int) := ⟨by have := PI_pos; omega, by have := PI_INF; omega⟩
  have he : r = ofKey (r : Int) := by unfold ofKey; rw [if_pos (by omega)]; omega
  have hnum : ∀ w, Calls Try.prog 127 #[.agg #[.int .u64 hi, .int .u64 lo, .int .i64 e, .bool rest], .bool (ng != up)] w fun e w' => e = .returned (.float .f64 (ofKey (r : Int))) ∧ Below w.heap.size w w' := by rw [← he]; exact hnum
  clear he hr
  generalize (r : Int) = k at *
  cases ng
  · rw [show (false != up) = up by cases up <;> rfl] at hnum
    have HN := Lib.hid hnum
    clear hnum
    go_enter Try.func101, Try.ntmps101
    go_wp2_with (go_at_call 127; refine (HN.out _).mono ?_; rintro e w1 ⟨rfl, hbw1⟩; skip)
    all_goals go_ret
    all_goals exact ⟨rfl, below_alloc hbw1⟩
  · rw [show (true != up) = !up by cases up <;> rfl] at hnum
    have HN := Lib.hid hnum
    clear hnum
    go_enter Try.func101, Try.ntmps101
    go_wp2_with (go_at_call 127; refine (HN.out _).mono ?_; rintro e w1 ⟨rfl, hbw1⟩; skip)
    all_goals go_ret
    all_goals exact ⟨rfl, below_alloc hbw1⟩

/-- What comes out of the method signed, joined with the real. -/
theorem signed_real (hi lo : Nat) (e : Int) (rest ng up : Bool) (N D : Nat) (hD : 0 < D) (c : Int → Int) (hc : Cut c) (hcv : ∀ k, c k = (if ng = true then -(N : Int) else (N : Int)) - V k * D)
    (hnum : ∃ r, MagR (ng != up) r N D ∧ ∀ w, Calls Try.prog 127 #[.agg #[.int .u64 hi, .int .u64 lo, .int .i64 e, .bool rest], .bool (ng != up)] w fun e w' => e = .returned (.float .f64 r) ∧ Below w.heap.size w w') (w : World) :
    Calls Try.prog 101 #[.agg #[.int .u64 hi, .int .u64 lo, .int .i64 e, .bool rest], .bool ng, .bool up] w fun e w' => e = .returned (.float .f64 (ofKey (rnd up c))) ∧ Below w.heap.size w w' := by
  obtain ⟨r, h1, h2⟩ := hnum
  rw [rnd_eq hc (signed_rnd hD hcv h1)]
  exact signed_any hi lo e rest ng up r (magR_le h1) h2 w

set_option maxHeartbeats 1000000 in
theorem fpmul_any (x y : Nat) (up : Bool) (hx : fin x) (hy : fin y) (hwx : Wd x) (hwy : Wd y) (w : World) :
    Calls Try.prog 84 #[.float .f64 x, .float .f64 y, .bool up] w fun e w' => e = .returned (.float .f64 (ofKey (mulK (key x) (key y) up))) ∧ Below w.heap.size w w' := by
  have hm := mgr_lt (rung x)
  have hn := mgr_lt (rung y)
  have hp := plr_fin hx
  have hq := plr_fin hy
  have hD : 0 < 2 ^ X74 := Nat.two_pow_pos X74
  have hN : M (rung x) * M (rung y) = mgr (rung x) * mgr (rung y) * 2 ^ (plr (rung x) + plr (rung y)) := by
    rw [M_eq, M_eq, Nat.mul_mul_mul_comm, ← Nat.pow_add]
  have hS : ∀ w, Calls Try.prog 101 #[.agg #[.int .u64 ((mgr (rung x) * mgr (rung y) / 18446744073709551616 : Nat) : Int), .int .u64 ((mgr (rung x) * mgr (rung y) % 18446744073709551616 : Nat) : Int), .int .i64 (((plr (rung x) : Int) - 1074) + ((plr (rung y) : Int) - 1074)), .bool false], .bool (neg x != neg y), .bool up] w fun e w' => e = .returned (.float .f64 (ofKey (mulK (key x) (key y) up))) ∧ Below w.heap.size w w' := by
    intro w
    refine signed_real _ _ _ _ _ _ _ _ hD _ (cut_mul _ _) (mul_cut x y) ?_ w
    rw [hN]
    obtain ⟨mn, hmn⟩ : ∃ mn, mn = mgr (rung x) * mgr (rung y) := ⟨_, rfl⟩
    rw [← hmn]
    have hmn2 : mn < 2 ^ 64 * 2 ^ 64 := by
      rw [hmn]
      exact Nat.lt_of_le_of_lt (Nat.mul_le_mul (Nat.le_of_lt hm) (Nat.le_of_lt hn)) (by decide)
    have hdm := Nat.div_add_mod mn 18446744073709551616
    have hml := Nat.mod_lt mn (show 0 < 18446744073709551616 by omega)
    have hhl : mn / 18446744073709551616 < 2 ^ 64 := by omega
    generalize mn / 18446744073709551616 = hi at *
    generalize mn % 18446744073709551616 = lo at *
    rcases Nat.eq_zero_or_pos hi with h0 | h0
    · subst h0
      rcases Nat.eq_zero_or_pos lo with h1 | h1
      · subst h1
        obtain rfl : mn = 0 := by omega
        rw [Nat.zero_mul]
        exact ⟨0, magR_zero hD, fun w => number_zero _ _ _ (by omega) (by omega) rfl w⟩
      · obtain ⟨r, h2, h3⟩ := number_low lo (((plr (rung x) : Int) - 1074) + ((plr (rung y) : Int) - 1074)) false ((neg x != neg y) != up) (mn * 2 ^ (plr (rung x) + plr (rung y))) (2 ^ X74) (by omega) (by omega) (by omega) (by omega) hD (exact_wide (j := 64) (by omega) (by omega))
        exact ⟨r, h2, h3⟩
    · exact number_up hi lo _ false _ _ _ hhl (by omega) (by omega) (by omega) (by omega) hD (.inl (exact_wide (j := 0) (by omega) (by omega)))
  have HS := Lib.hid hS
  clear hS hN hD
  have h64 := Try.bits_Mul64 (mgr (rung x)) (mgr (rung y)) (by omega) (by omega)
  have HM := Lib.hid h64
  clear h64
  have PX := Lib.hid (parts_any x hwx)
  have PY := Lib.hid (parts_any y hwy)
  generalize mgr (rung x) = m at *
  generalize mgr (rung y) = n at *
  have b1 : (0 : Int) ≤ plr (rung x) := by omega
  have b2 : (plr (rung x) : Int) ≤ 2045 := by omega
  have b3 : (0 : Int) ≤ plr (rung y) := by omega
  have b4 : (plr (rung y) : Int) ≤ 2045 := by omega
  generalize (plr (rung x) : Int) = px at *
  generalize (plr (rung y) : Int) = py at *
  go_enter Try.func84, Try.ntmps84
  go_wp2_with (first | (go_at_call 99; (first | (with_reducible refine (PX.out _).mono ?_) | (with_reducible refine (PY.out _).mono ?_)); rintro e w' ⟨rfl, rfl⟩) | (go_at_call 100; refine (HM.out _).mono ?_; rintro e w' ⟨rfl, rfl⟩) | (go_at_call 101; refine (HS.out _).mono ?_; rintro e w1 ⟨rfl, hbw1⟩; skip))
  all_goals go_ret
  all_goals exact ⟨rfl, hbw1⟩

end Go.Proofs.Yteephgpefhodnaa
