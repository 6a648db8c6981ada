/- Plain law: what a program of three steps gives; one of two, of four, over a box that is too small or that holds what is none. -/
import Derived.Test.YteephgpefhodnaaV1
namespace Go.Proofs.Yteephgpefhodnaa
open Go.RowKit Go.Sort Go.Fl
set_option linter.unusedSimpArgs false
set_option linter.unusedVariables false

theorem dD_top (a b : Nat) (d : Int) : 0 ≤ dD a b d ∧ dD a b d ≤ 4 ∧ (dD a b d ≤ 0 → dIll a b d) := by
  by_cases hi : dIll a b d
  · unfold dD; rw [if_pos hi]; exact ⟨Int.le_refl 0, by omega, fun _ => hi⟩
  · have h1 : ¬ d ≤ 0 := fun g => hi (.inl g)
    have h2 : ¬ 4 < d := fun g => hi (.inr (.inl g))
    unfold dD
    rw [if_neg hi]
    split
    · exact ⟨by omega, by omega, fun g => by omega⟩
    · split
      · exact ⟨by omega, by omega, fun g => by omega⟩
      · exact ⟨by omega, by omega, fun g => by omega⟩
theorem ofD_ofD (x : De) : ofD (ofD x) = ofD x := by
  obtain ⟨a, b, d⟩ := x
  have c := dc_canon (dc_iv a b d) (dD a b d)
  have t := dD_top a b d
  have e1 : dLo (ofKey (dLo a b d)) (ofKey (dHi a b d)) (dD a b d) = dLo a b d ∧ dHi (ofKey (dLo a b d)) (ofKey (dHi a b d)) (dD a b d) = dHi a b d ∧ dD (ofKey (dLo a b d)) (ofKey (dHi a b d)) (dD a b d) = dD a b d := by
    rw [c.1, c.2.1, c.2.2]
    by_cases hi : dIll a b d
    · have z : dLo a b d = PI ∧ dHi a b d = -PI ∧ dD a b d = 0 := by
        unfold dLo dHi dD; rw [if_pos hi, if_pos hi, if_pos hi]; exact ⟨rfl, rfl, rfl⟩
      rw [z.1, z.2.1, z.2.2]
      exact ⟨rfl, rfl, rfl⟩
    · have h0 : ¬ dD a b d ≤ 0 := fun g => hi (t.2.2 g)
      have h4 : ¬ (dD a b d ≤ 0 ∨ 4 < dD a b d) := by omega
      rw [if_neg h4, if_neg h4, if_neg h4]
      refine ⟨rfl, rfl, ?_⟩
      have el : dLo a b d = tkLo a b := by unfold dLo; rw [if_neg hi]
      have eh : dHi a b d = tkHi a b := by unfold dHi; rw [if_neg hi]
      rw [el, eh]
      unfold dD
      rw [if_neg hi]
      by_cases h1 : tkLo a b = PI ∧ tkHi a b = -PI
      · rw [if_pos h1, if_pos h1]
      · rw [if_neg h1, if_neg h1]
        by_cases h2 : Bnd (tkLo a b) (tkHi a b)
        · rw [if_pos h2, if_pos h2]
        · rw [if_neg h2, if_neg h2]; omega
  unfold ofD
  simp only
  rw [e1.1, e1.2.1, e1.2.2]
theorem doD_ofD (o : Int) (x y : De) : doD o (ofD x) (ofD y) = doD o x y := by
  have hx := ofD_ofD x
  have hy := ofD_ofD y
  have rx := dc_iv x.1 x.2.1 x.2.2
  have rx2 := dc_iv (ofD x).1 (ofD x).2.1 (ofD x).2.2
  have ry := dc_iv y.1 y.2.1 y.2.2
  have ry2 := dc_iv (ofD y).1 (ofD y).2.1 (ofD y).2.2
  have k : ∀ (z : De), ofD (ofD z) = ofD z → dLo (ofD z).1 (ofD z).2.1 (ofD z).2.2 = dLo z.1 z.2.1 z.2.2 ∧ dHi (ofD z).1 (ofD z).2.1 (ofD z).2.2 = dHi z.1 z.2.1 z.2.2 ∧ dD (ofD z).1 (ofD z).2.1 (ofD z).2.2 = dD z.1 z.2.1 z.2.2 := by
    intro z h
    have q1 := dc_iv z.1 z.2.1 z.2.2
    have q2 := dc_iv (ofD z).1 (ofD z).2.1 (ofD z).2.2
    have h1 : ofKey (dLo (ofD z).1 (ofD z).2.1 (ofD z).2.2) = ofKey (dLo z.1 z.2.1 z.2.2) := congrArg (·.1) h
    have h2 : ofKey (dHi (ofD z).1 (ofD z).2.1 (ofD z).2.2) = ofKey (dHi z.1 z.2.1 z.2.2) := congrArg (·.2.1) h
    have h3 : dD (ofD z).1 (ofD z).2.1 (ofD z).2.2 = dD z.1 z.2.1 z.2.2 := congrArg (·.2.2) h
    exact ⟨ofKey_inj q2.1 q1.1 h1, ofKey_inj q2.2.1 q1.2.1 h2, h3⟩
  unfold doD
  rw [(k x hx).1, (k x hx).2.1, (k x hx).2.2, (k y hy).1, (k y hy).2.1, (k y hy).2.2]
theorem doD_ill {o : Int} (ho : 6 ≤ o ∧ o ≤ 11) {x y : De} (h : dD x.1 x.2.1 x.2.2 = 0 ∨ dD y.1 y.2.1 y.2.2 = 0) : doD o x y = illD := by
  have ha : argsK o = 2 := by unfold argsK; rw [if_neg (by omega), if_pos (by omega)]
  have hz : zIll o (dD x.1 x.2.1 x.2.2) (dD y.1 y.2.1 y.2.2) := by
    rcases h with h | h
    · exact .inr (.inl h)
    · exact .inr (.inr ⟨ha, h⟩)
  unfold doD zLo zHi zD
  rw [if_pos hz, if_pos hz, if_pos hz]
  rfl
def three (o : Int) : List St := [(13, 1, 0), (13, 0, 0), (o, 0, 0)]
theorem step_var {bx st : List De} {j : Nat} {x : Nat} (hj : j < bx.length) (hs : st.length < 8) : stepD bx (13, (j : Int), x) st = some (st ++ [bx.getD j zeroD]) := by
  unfold stepD putD
  rw [if_neg (by intro g; have g1 : (13 : Int) = 12 := g.1; omega), if_pos ⟨rfl, by simp, by simpa using hj⟩, if_neg (by omega)]
  simp
theorem step_two {bx st : List De} {o i : Int} {x : Nat} {a b : De} (ho : 6 ≤ o ∧ o ≤ 11) : stepD bx (o, i, x) [a, b] = some [doD o a b] := by
  unfold stepD putD
  rw [if_neg (by intro g; have := g.1; simp at this; omega), if_neg (by intro g; have := g.1; simp at this; omega), if_neg (by simp; omega), if_pos (by simp; omega)]
  simp
theorem step_one_two {bx : List De} {o i : Int} {x : Nat} {a : De} (ho : 6 ≤ o ∧ o ≤ 11) : stepD bx (o, i, x) [a] = none := by
  unfold stepD putD
  rw [if_neg (by intro g; have := g.1; simp at this; omega), if_neg (by intro g; have := g.1; simp at this; omega), if_neg (by simp; omega), if_pos (by simp; omega)]
  simp
theorem run_two {bx : List De} (h : 1 < bx.length) : runD bx [(13, 1, 0), (13, 0, 0)] [] = some [bx.getD 1 zeroD, bx.getD 0 zeroD] := by
  have a := step_var (bx := bx) (st := []) (j := 1) (x := 0) h (by simp)
  have b := step_var (bx := bx) (st := [bx.getD 1 zeroD]) (j := 0) (x := 0) (by omega) (by simp)
  show (stepD bx (13, ((1 : Nat) : Int), 0) []).bind (runD bx [(13, ((0 : Nat) : Int), 0)]) = _
  rw [a]
  show (stepD bx (13, ((0 : Nat) : Int), 0) [bx.getD 1 zeroD]).bind (runD bx []) = _
  rw [b]; rfl
theorem run_three {bx : List De} {o : Int} (ho : 6 ≤ o ∧ o ≤ 11) (h : 1 < bx.length) : runD bx (three o) [] = some [doD o (bx.getD 1 zeroD) (bx.getD 0 zeroD)] := by
  have e := runD_append bx [(13, 1, 0), (13, 0, 0)] [(o, 0, 0)] []
  rw [run_two h] at e
  show runD bx ([(13, 1, 0), (13, 0, 0)] ++ [(o, 0, 0)]) [] = _
  rw [e]
  show (stepD bx (o, 0, 0) [bx.getD 1 zeroD, bx.getD 0 zeroD]).bind (runD bx []) = _
  rw [step_two (st := []) ho]; rfl
theorem ev_three {o : Int} (ho : 6 ≤ o ∧ o ≤ 11) (x z : De) : evD (three o) [z, x] = (doD o x z, 0) := by
  have hr : runD ([z, x].map ofD) (three o) [] = some [doD o (ofD x) (ofD z)] := run_three ho (by simp)
  rw [evD_one (by simp) (by simp [three]) hr rfl]
  rw [doD_ofD]
  by_cases hb : ([z, x].any fun y => decide ((ofD y).2.2 = 0)) = true
  · rw [if_pos hb]
    have : dD x.1 x.2.1 x.2.2 = 0 ∨ dD z.1 z.2.1 z.2.2 = 0 := by
      simp [ofD] at hb
      rcases hb with hb | hb
      · exact .inr (of_decide_eq_true hb)
      · exact .inl (of_decide_eq_true hb)
    rw [doD_ill ho this]
  · rw [if_neg hb]; rfl
theorem ev_two (x z : De) : evD [(13, 1, 0), (13, 0, 0)] [z, x] = (zeroD, 2) :=
  evD_not (by simp) (by simp) (run_two (by simp)) (by simp)
theorem ev_small {o : Int} (z : De) : evD (three o) [z] = (zeroD, 2) := by
  refine evD_none (by simp) (by simp [three]) ?_
  show (stepD ([z].map ofD) (13, 1, 0) []).bind (runD ([z].map ofD) [(13, 0, 0), (o, 0, 0)]) = none
  have e : stepD ([z].map ofD) (13, 1, 0) [] = none := by
    unfold stepD
    rw [if_neg (by intro g; exact absurd g.1 (by decide)), if_neg (by simp), if_neg (by simp), if_neg (by simp)]
  rw [e]; rfl
theorem ev_four {o : Int} (ho : 6 ≤ o ∧ o ≤ 11) (x z : De) : evD (three o ++ [(o, 0, 0)]) [z, x] = (zeroD, 2) := by
  refine evD_none (by simp) (by simp [three]) ?_
  rw [runD_append, run_three ho (by simp)]
  show (stepD ([z, x].map ofD) (o, 0, 0) [_]).bind (runD ([z, x].map ofD) []) = none
  rw [step_one_two ho]; rfl
theorem ev_bad {o : Int} (ho : 6 ≤ o ∧ o ≤ 11) (x z : De) : evD (three o) [z, x, zeroD] = (illD, 0) := by
  have hr : runD ([z, x, zeroD].map ofD) (three o) [] = some [doD o (ofD x) (ofD z)] := run_three ho (by simp)
  rw [evD_one (by simp) (by simp [three]) hr rfl]
  have hb : ([z, x, zeroD].any fun y => decide ((ofD y).2.2 = 0)) = true := by
    have : dD zeroD.1 zeroD.2.1 zeroD.2.2 = 0 := by unfold dD; rw [if_pos (.inl (Int.le_refl 0))]
    simp [ofD, this]
  rw [if_pos hb]
end Go.Proofs.Yteephgpefhodnaa
