/- Contracts of Meet and Hull, in the program and in the document's answer. -/
import Derived.Test.YteephgpefhodnabGreatAA
import Derived.Lib.Hide
import Derived.Deep.RegionHeld3
namespace Go.Proofs.YteephgpefhodnabGreat
open Go.RowKit Go.Sort Go.Fl
set_option linter.unusedSimpArgs false
set_option linter.unusedVariables false

/-- What is an interval is taken as it is. -/
theorem tk_canon {a b : Int} (h : Iv a b) : tkLo (ofKey a) (ofKey b) = a ∧ tkHi (ofKey a) (ofKey b) = b := by
  obtain ⟨ra, rb, h3⟩ := h
  have hg : good (ofKey a) (ofKey b) = true := by
    unfold good
    rw [key_ofKey ra, key_ofKey rb]
    exact decide_eq_true ⟨not_nan_ofKey ra, not_nan_ofKey rb, h3⟩
  unfold tkLo tkHi
  rw [if_pos hg, if_pos hg, key_ofKey ra, key_ofKey rb]
  exact ⟨rfl, rfl⟩

def meetLo (a b c d : Int) : Int := if min b d < max a c then PI else max a c
def meetHi (a b c d : Int) : Int := if min b d < max a c then -PI else min b d
theorem meet_iv {a b c d : Int} (h : Iv a b) (h' : Iv c d) (hl : max a c ≤ min b d) : Iv (max a c) (min b d) := by
  obtain ⟨ra, rb, h3⟩ := h
  obtain ⟨rc, rd, h4⟩ := h'
  have := PI_pos
  exact ⟨rg_max ra rc, rg_min rb rd, by omega⟩
theorem hull_iv {a b c d : Int} (h : Iv a b) (h' : Iv c d) : Iv (min a c) (max b d) := by
  obtain ⟨ra, rb, h3⟩ := h
  obtain ⟨rc, rd, h4⟩ := h'
  have := PI_pos
  have ra1 := ra.1; have ra2 := ra.2; have rb1 := rb.1; have rb2 := rb.2
  have rc1 := rc.1; have rc2 := rc.2; have rd1 := rd.1; have rd2 := rd.2
  exact ⟨rg_min ra rc, rg_max rb rd, by omega⟩

theorem least_k (a b : Int) (ha : Rg a) (hb : Rg b) (w : World) :
    Calls Tryz.prog 58 #[.float .f64 (ofKey (a)), .float .f64 (ofKey (b))] w fun e w' => e = .returned (.float .f64 (ofKey (min a b))) ∧ w = w' := by
  by_cases h : b < a
  · rw [Int.min_eq_right (by omega)]
    go_enter Tryz.func58, Tryz.ntmps58
    go_wp2
    go_ret
    exact ⟨rfl, rfl⟩
  · rw [Int.min_eq_left (by omega)]
    go_enter Tryz.func58, Tryz.ntmps58
    go_wp2
    go_ret
    exact ⟨rfl, rfl⟩
theorem least_nk (a b : Int) (ha : Rg a) (hb : Rg b) (w : World) :
    Calls Tryz.prog 58 #[.float .f64 (Op.negFloat .f64 (ofKey a)), .float .f64 (Op.negFloat .f64 (ofKey b))] w fun e w' => e = .returned (.float .f64 (Op.negFloat .f64 (ofKey (max a b)))) ∧ w = w' := by
  by_cases h : a < b
  · rw [Int.max_eq_right (by omega)]
    have h' : -b < -a := by omega
    go_enter Tryz.func58, Tryz.ntmps58
    go_wp2
    go_ret
    exact ⟨rfl, rfl⟩
  · rw [Int.max_eq_left (by omega)]
    have h' : ¬ -b < -a := by omega
    go_enter Tryz.func58, Tryz.ntmps58
    go_wp2
    go_ret
    exact ⟨rfl, rfl⟩

end Go.Proofs.YteephgpefhodnabGreat
