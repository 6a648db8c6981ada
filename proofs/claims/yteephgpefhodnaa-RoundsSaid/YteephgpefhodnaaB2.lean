/- The fields of a word; Ldexp of a whole number. -/
import Derived.Test.YteephgpefhodnaaB1
import Derived.Test.YteephgpefhodnaaF9
import Derived.Test.YteephgpefhodnaaShelf
namespace Go.Proofs.Yteephgpefhodnaa
open Go.RowKit Go.Sort Go.Fl
set_option linter.unusedSimpArgs false
set_option linter.unusedVariables false

theorem ret_parts {a b : Bool} {m n : Nat} {e f : Int} (h1 : a = b) (h2 : m = n) (h3 : e = f) : Ending.returned (.tuple #[.bool a, .int .u64 m, .int .i64 e]) = .returned (.tuple #[.bool b, .int .u64 n, .int .i64 f]) := by rw [h1, h2, h3]
theorem parts_any (x : Nat) (hw : Wd x) (w : World) :
    Calls Try.prog 99 #[.float .f64 x] w fun e w' => e = .returned (.tuple #[.bool (neg x), .int .u64 (mgr (rung x) : Nat), .int .i64 ((plr (rung x) : Int) - 1074)]) ∧ w = w' := by
  have ht := run_tobits
  have h1 := u64_frac x hw
  have h2 := u64_field (x / 2 ^ 52) (by unfold Wd at hw; omega)
  have h2' : bits BinOp.and IntKind.u64 ((x : Int) / 4503599627370496) 2047 = ((x / 2 ^ 52 % 2 ^ 11 : Nat) : Int) := by
    rw [← h2]; congr 1
  clear h2
  have hs : ((x : Int) / 9223372036854775808 == 1) = neg x := by
    unfold neg
    unfold Wd at hw
    rw [Bool.eq_iff_iff]
    simp only [beq_iff_eq]
    omega
  obtain ⟨h3, h4⟩ := word_parts x hw
  by_cases h0 : x / 2 ^ 52 % 2 ^ 11 = 0
  · rw [if_pos h0] at h3 h4
    rw [h0, Int.natCast_zero] at h2'
    rw [h3, h4]
    clear h3 h4 h0
    go_enter Try.func99, Try.ntmps99
    go_wp2
    go_ret3
    exact ⟨ret_parts rfl rfl rfl, rfl⟩
  · rw [if_neg h0] at h3 h4
    rw [h3, h4]
    have hor := u64_or52 (x % 2 ^ 52) (Nat.mod_lt _ (by omega))
    have hlt : x / 2 ^ 52 % 2 ^ 11 < 2 ^ 11 := Nat.mod_lt _ (by omega)
    generalize x / 2 ^ 52 % 2 ^ 11 = ef at *
    generalize hm : x % 2 ^ 52 = m at *
    have hb1 : (1 : Int) ≤ ef := by omega
    have hb2 : (ef : Int) ≤ 2047 := by omega
    clear h3 h4 h0 hlt
    go_enter Try.func99, Try.ntmps99
    go_wp2
    go_ret3
    exact ⟨ret_parts rfl rfl (by omega), rfl⟩

end Go.Proofs.Yteephgpefhodnaa
