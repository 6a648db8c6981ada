/- Plain laws of the operations on ends: order, signs. -/
import Derived.Test.YteephgpefhodnaaP1
import Derived.Test.YteephgpefhodnaaC7
namespace Go.Proofs.Yteephgpefhodnaa
open Go.RowKit Go.Sort Go.Fl
set_option linter.unusedSimpArgs false
set_option linter.unusedVariables false

def Fi (x : Int) : Prop := -PI < x ∧ x < PI
theorem Fi.rg {x : Int} (h : Fi x) : Rg x := ⟨by have := h.1; omega, by have := h.2; omega⟩
theorem Fi.neg {x : Int} (h : Fi x) : Fi (-x) := ⟨by have := h.2; omega, by have := h.1; omega⟩
theorem fi_zero : Fi 0 := ⟨by decide, by decide⟩
theorem endK_fi {o x y : Int} (hx : Fi x) (hy : Fi y) (up : Bool) : endK o x y up = roundK o x y up := by
  unfold endK; rw [if_pos ⟨hx.1, hx.2, hy.1, hy.2⟩]
theorem roundK_6 (x y : Int) (up : Bool) : roundK 6 x y up = rnd up (cAdd x y) := rfl
theorem roundK_8 (x y : Int) (up : Bool) : roundK 8 x y up = rnd up (cMul x y) := rfl
theorem roundK_9 (x y : Int) (up : Bool) : roundK 9 x y up = rnd up (cDiv x y) := rfl
theorem cut_round (o x y : Int) (hy : o = 9 → y ≠ 0) (ho : o = 3 ∨ o = 6 ∨ o = 7 ∨ o = 8 ∨ o = 9) : ∃ c, Cut c ∧ ∀ up, roundK o x y up = rnd up c := by
  rcases ho with rfl | rfl | rfl | rfl | rfl
  · exact ⟨_, cut_sqrt x, fun _ => rfl⟩
  · exact ⟨_, cut_add x y, fun _ => rfl⟩
  · exact ⟨_, cut_add x (-y), fun _ => rfl⟩
  · exact ⟨_, cut_mul x y, fun _ => rfl⟩
  · exact ⟨_, cut_div x y (hy rfl), fun _ => rfl⟩
theorem low_lt (c : Int → Int) : rnd false c < PI ∧ -PI ≤ rnd false c := ⟨(rd_spec c).2.1, (rd_spec c).1⟩
theorem high_gt (c : Int → Int) : -PI < rnd true c ∧ rnd true c ≤ PI := ⟨(ru_spec c).1, (ru_spec c).2.1⟩

/-! ## Sums -/
theorem end6_case (x y : Int) (rx : Rg x) (ry : Rg y) (ok : EndOk 6 x y) (up : Bool) :
    (Fi x ∧ Fi y ∧ endK 6 x y up = rnd up (cAdd x y)) ∨ ((x = PI ∨ y = PI) ∧ -PI < x ∧ -PI < y ∧ endK 6 x y up = PI) ∨ ((x = -PI ∨ y = -PI) ∧ x < PI ∧ y < PI ∧ endK 6 x y up = -PI) := by
  have hP := PI_pos
  obtain ⟨x1, x2⟩ := rx
  obtain ⟨y1, y2⟩ := ry
  unfold EndOk at ok
  unfold endK
  by_cases h : -PI < x ∧ x < PI ∧ -PI < y ∧ y < PI
  · rw [if_pos h]
    exact .inl ⟨⟨h.1, h.2.1⟩, ⟨h.2.2.1, h.2.2.2⟩, rfl⟩
  · rw [if_neg h, if_neg (by omega), if_pos rfl]
    by_cases h2 : x = PI ∨ y = PI
    · rw [if_pos h2]
      exact .inr (.inl ⟨h2, by omega, by omega, rfl⟩)
    · rw [if_neg h2]
      exact .inr (.inr ⟨by omega, by omega, by omega, rfl⟩)
theorem end6_mono {x x' y y' : Int} (rx : Rg x) (rx' : Rg x') (ry : Rg y) (ry' : Rg y') (ok : EndOk 6 x y) (ok' : EndOk 6 x' y') (hx : x ≤ x') (hy : y ≤ y') (up : Bool) : endK 6 x y up ≤ endK 6 x' y' up := by
  have hP := PI_pos
  have r1 := endK_rg 6 x y up rx
  have r2 := endK_rg 6 x' y' up rx'
  obtain ⟨r1, r1'⟩ := r1
  obtain ⟨r2, r2'⟩ := r2
  rcases end6_case x y rx ry ok up with ⟨f1, f2, e⟩ | ⟨f1, f2, f3, e⟩ | ⟨f1, f2, f3, e⟩ <;> rcases end6_case x' y' rx' ry' ok' up with ⟨g1, g2, e'⟩ | ⟨g1, g2, g3, e'⟩ | ⟨g1, g2, g3, e'⟩ <;> rw [e, e']
  · exact sum_mono hx hy up
  · rw [e] at r1'; exact r1'
  · unfold Fi at *; omega
  · unfold Fi Rg at *; omega
  · omega
  · unfold Rg at *; omega
  · rw [e'] at r2; exact r2
  · omega
  · omega
theorem end6_comm (x y : Int) (up : Bool) : endK 6 x y up = endK 6 y x up := by
  unfold endK
  by_cases h : -PI < x ∧ x < PI ∧ -PI < y ∧ y < PI
  · rw [if_pos h, if_pos (by omega), roundK_6, roundK_6, cAdd_comm]
  · have e1 : ¬ ((6 : Int) = 8) := by omega
    rw [if_neg h, if_neg (by omega : ¬ (-PI < y ∧ y < PI ∧ -PI < x ∧ x < PI)), if_neg e1, if_neg e1, if_pos rfl, if_pos rfl]
    by_cases h2 : x = PI ∨ y = PI
    · rw [if_pos h2, if_pos (by omega)]
    · rw [if_neg h2, if_neg (by omega)]
theorem end6_flip {x y : Int} (rx : Rg x) (ry : Rg y) (ok : EndOk 6 x y) (up : Bool) : endK 6 (-x) (-y) (!up) = -endK 6 x y up := by
  have hP := PI_pos
  have ok' : EndOk 6 (-x) (-y) := by unfold EndOk at *; omega
  rcases end6_case x y rx ry ok up with ⟨f1, f2, e⟩ | ⟨f1, f2, f3, e⟩ | ⟨f1, f2, f3, e⟩ <;> rcases end6_case (-x) (-y) (Rg_neg rx) (Rg_neg ry) ok' (!up) with ⟨g1, g2, e'⟩ | ⟨g1, g2, g3, e'⟩ | ⟨g1, g2, g3, e'⟩ <;> rw [e, e']
  · exact sum_flip x y up
  all_goals (unfold Fi Rg at *; omega)

/-! ## Products -/
theorem end8_comm (x y : Int) (up : Bool) : endK 8 x y up = endK 8 y x up := by
  unfold endK
  by_cases h : -PI < x ∧ x < PI ∧ -PI < y ∧ y < PI
  · rw [if_pos h, if_pos (by omega), roundK_8, roundK_8, cMul_comm]
  · rw [if_neg h, if_neg (by omega : ¬ (-PI < y ∧ y < PI ∧ -PI < x ∧ x < PI)), if_pos rfl, if_pos rfl]
    by_cases h2 : x = 0 ∨ y = 0
    · rw [if_pos h2, if_pos (by omega)]
    · rw [if_neg h2, if_neg (by omega)]
      unfold infSign
      by_cases h3 : (0 < x ∧ 0 < y) ∨ (x < 0 ∧ y < 0)
      · rw [if_pos h3, if_pos (by omega)]
      · rw [if_neg h3, if_neg (by omega)]
theorem end8_zero (x : Int) (rx : Rg x) (up : Bool) : endK 8 x 0 up = 0 := by
  unfold endK
  by_cases h : -PI < x ∧ x < PI ∧ -PI < (0 : Int) ∧ (0 : Int) < PI
  · rw [if_pos h, roundK_8, prod_zero]
  · rw [if_neg h, if_pos rfl, if_pos (.inr rfl)]
theorem end8_case (x y : Int) (rx : Rg x) (ry : Rg y) (up : Bool) :
    (Fi x ∧ Fi y ∧ endK 8 x y up = rnd up (cMul x y)) ∨ ((x = 0 ∨ y = 0) ∧ endK 8 x y up = 0) ∨
    ((x = PI ∨ x = -PI ∨ y = PI ∨ y = -PI) ∧ ((0 < x ∧ 0 < y) ∨ (x < 0 ∧ y < 0)) ∧ endK 8 x y up = PI) ∨ ((x = PI ∨ x = -PI ∨ y = PI ∨ y = -PI) ∧ ((0 < x ∧ y < 0) ∨ (x < 0 ∧ 0 < y)) ∧ endK 8 x y up = -PI) := by
  have hP := PI_pos
  obtain ⟨x1, x2⟩ := rx
  obtain ⟨y1, y2⟩ := ry
  unfold endK
  by_cases h : -PI < x ∧ x < PI ∧ -PI < y ∧ y < PI
  · rw [if_pos h]
    exact .inl ⟨⟨h.1, h.2.1⟩, ⟨h.2.2.1, h.2.2.2⟩, rfl⟩
  · rw [if_neg h, if_pos rfl]
    by_cases h2 : x = 0 ∨ y = 0
    · rw [if_pos h2]
      exact .inr (.inl ⟨h2, rfl⟩)
    · rw [if_neg h2]
      unfold infSign
      by_cases h3 : (0 < x ∧ 0 < y) ∨ (x < 0 ∧ y < 0)
      · rw [if_pos h3]
        exact .inr (.inr (.inl ⟨by omega, h3, rfl⟩))
      · rw [if_neg h3]
        exact .inr (.inr (.inr ⟨by omega, by omega, rfl⟩))
theorem end8_mono {x x' y : Int} (rx : Rg x) (rx' : Rg x') (ry : Rg y) (hx : x ≤ x') (hy : 0 ≤ y) (up : Bool) : endK 8 x y up ≤ endK 8 x' y up := by
  have hP := PI_pos
  have r1 := endK_rg 8 x y up rx
  have r2 := endK_rg 8 x' y up rx'
  by_cases h0 : y = 0
  · rw [h0, end8_zero x rx, end8_zero x' rx']; exact Int.le_refl _
  rcases end8_case x y rx ry up with ⟨f1, f2, e⟩ | ⟨f1, e⟩ | ⟨f1, f2, e⟩ | ⟨f1, f2, e⟩ <;> rcases end8_case x' y rx' ry up with ⟨g1, g2, e'⟩ | ⟨g1, e'⟩ | ⟨g1, g2, e'⟩ | ⟨g1, g2, e'⟩
  · rw [e, e']; exact prod_mono hx hy up
  · rw [e, e']
    have : x' = 0 := by omega
    subst this
    refine Int.le_trans (prod_mono hx hy up) ?_
    rw [cMul_comm, prod_zero]; exact Int.le_refl _
  · rw [e']; exact r1.2
  · exfalso; unfold Fi Rg at *; omega
  · rw [e, e']
    have : x = 0 := by omega
    subst this
    refine Int.le_trans ?_ (prod_mono hx hy up)
    rw [cMul_comm, prod_zero]; exact Int.le_refl _
  · rw [e, e']; exact Int.le_refl _
  · rw [e, e']; omega
  · exfalso; unfold Rg at *; omega
  · exfalso; unfold Fi Rg at *; omega
  · exfalso; unfold Rg at *; omega
  · rw [e, e']; exact Int.le_refl _
  · exfalso; unfold Rg at *; omega
  · rw [e]; exact r2.1
  · rw [e]; exact r2.1
  · rw [e]; exact r2.1
  · rw [e]; exact r2.1
theorem end8_flip {x y : Int} (rx : Rg x) (ry : Rg y) (up : Bool) : endK 8 (-x) y (!up) = -endK 8 x y up := by
  have hP := PI_pos
  rcases end8_case x y rx ry up with ⟨f1, f2, e⟩ | ⟨f1, e⟩ | ⟨f1, f2, e⟩ | ⟨f1, f2, e⟩
  · rw [e, endK_fi f1.neg f2, roundK_8]; exact prod_flip x y up
  · rw [e]
    rcases f1 with rfl | rfl
    · rw [Int.neg_zero, end8_comm, end8_zero y ry]
    · rw [end8_zero _ (Rg_neg rx)]; rfl
  · rw [e]
    rcases end8_case (-x) y (Rg_neg rx) ry (!up) with ⟨g1, g2, e'⟩ | ⟨g1, e'⟩ | ⟨g1, g2, e'⟩ | ⟨g1, g2, e'⟩ <;> first | (exfalso; unfold Fi Rg at *; omega) | (rw [e']; done) | (rw [e']; omega)
  · rw [e]
    rcases end8_case (-x) y (Rg_neg rx) ry (!up) with ⟨g1, g2, e'⟩ | ⟨g1, e'⟩ | ⟨g1, g2, e'⟩ | ⟨g1, g2, e'⟩ <;> first | (exfalso; unfold Fi Rg at *; omega) | (rw [e']; done) | (rw [e']; omega)
theorem end8_anti {x x' y : Int} (rx : Rg x) (rx' : Rg x') (ry : Rg y) (hx : x ≤ x') (hy : y ≤ 0) (up : Bool) : endK 8 x' y up ≤ endK 8 x y up := by
  have h := end8_mono (Rg_neg rx') (Rg_neg rx) (Rg_neg ry) (show -x' ≤ -x by omega) (show 0 ≤ -y by omega) up
  have e : ∀ z, Rg z → endK 8 (-z) (-y) up = endK 8 z y up := fun z rz => by
    have a := end8_flip rz (Rg_neg ry) (!up)
    have b := end8_flip ry rz up
    rw [not_up] at a
    rw [a, end8_comm z (-y), b, end8_comm y z, Int.neg_neg]
  rw [e x rx, e x' rx'] at h
  exact h
theorem end8_nn {x y : Int} (rx : Rg x) (ry : Rg y) (hx : 0 ≤ x) (hy : 0 ≤ y) (up : Bool) : 0 ≤ endK 8 x y up := by
  have h := end8_mono Rg_zero rx ry hx hy up
  rw [end8_comm 0, end8_zero y ry] at h
  exact h
/-- Between two ends a product lies between the products of the ends. -/
theorem end8_within {A B x y : Int} (rA : Rg A) (rB : Rg B) (rx : Rg x) (ry : Rg y) (h1 : A ≤ x) (h2 : x ≤ B) (up : Bool) :
    min (endK 8 A y up) (endK 8 B y up) ≤ endK 8 x y up ∧ endK 8 x y up ≤ max (endK 8 A y up) (endK 8 B y up) := by
  by_cases hy : 0 ≤ y
  · have := end8_mono rA rx ry h1 hy up
    have := end8_mono rx rB ry h2 hy up
    omega
  · have := end8_anti rA rx ry h1 (by omega) up
    have := end8_anti rx rB ry h2 (by omega) up
    omega
theorem loN4 (o A B C D : Int) (rA : Rg A) (rB : Rg B) : loN o A B C D 4 = min (min (endK o A C false) (endK o A D false)) (min (endK o B C false) (endK o B D false)) := by
  have h1 := endK_rg o A C false rA
  have e : loN o A B C D 4 = min (min (min (min PI (endK o A C false)) (endK o A D false)) (endK o B C false)) (endK o B D false) := rfl
  have := h1.2
  rw [e]; omega
theorem hiN4 (o A B C D : Int) (rA : Rg A) (rB : Rg B) : hiN o A B C D 4 = max (max (endK o A C true) (endK o A D true)) (max (endK o B C true) (endK o B D true)) := by
  have h1 := endK_rg o A C true rA
  have e : hiN o A B C D 4 = max (max (max (max (-PI) (endK o A C true)) (endK o A D true)) (endK o B C true)) (endK o B D true) := rfl
  have := h1.1
  rw [e]; omega
/-- A product lies between the least and the greatest of the four. -/
theorem prod_within {A B C D x y : Int} (rA : Rg A) (rB : Rg B) (rC : Rg C) (rD : Rg D) (hx1 : A ≤ x) (hx2 : x ≤ B) (hy1 : C ≤ y) (hy2 : y ≤ D) :
    loN 8 A B C D 4 ≤ endK 8 x y false ∧ endK 8 x y true ≤ hiN 8 A B C D 4 := by
  have rx : Rg x := ⟨by have := rA.1; omega, by have := rB.2; omega⟩
  have ry : Rg y := ⟨by have := rC.1; omega, by have := rD.2; omega⟩
  rw [loN4 8 A B C D rA rB, hiN4 8 A B C D rA rB]
  have a := fun up => end8_within rA rB rx ry hx1 hx2 up
  have b := fun up => end8_within rC rD ry rA hy1 hy2 up
  have c := fun up => end8_within rC rD ry rB hy1 hy2 up
  simp only [end8_comm C, end8_comm D, end8_comm y] at b c
  have a1 := (a false).1
  have b1 := (b false).1
  have c1 := (c false).1
  have a2 := (a true).2
  have b2 := (b true).2
  have c2 := (c true).2
  clear a b c
  omega

/-! ## Quotients by what is above nought -/
theorem end9_PI (x : Int) (up : Bool) : endK 9 x PI up = 0 := by
  have hP := PI_pos
  unfold endK; rw [if_neg (by omega), if_neg (by omega), if_neg (by omega), if_pos (.inl rfl)]
theorem end9_case (x y : Int) (rx : Rg x) (hy : 0 < y) (hy2 : y < PI) (up : Bool) :
    (Fi x ∧ endK 9 x y up = rnd up (cDiv x y)) ∨ ((x = PI ∨ x = -PI) ∧ endK 9 x y up = x) := by
  have hP := PI_pos
  obtain ⟨x1, x2⟩ := rx
  unfold endK
  by_cases h : -PI < x ∧ x < PI ∧ -PI < y ∧ y < PI
  · rw [if_pos h]; exact .inl ⟨⟨h.1, h.2.1⟩, rfl⟩
  · rw [if_neg h, if_neg (by omega), if_neg (by omega), if_neg (by omega)]
    exact .inr ⟨by omega, rfl⟩
theorem end9_mono {x x' y : Int} (rx : Rg x) (rx' : Rg x') (hx : x ≤ x') (hy : 0 < y) (hy2 : y ≤ PI) (up : Bool) : endK 9 x y up ≤ endK 9 x' y up := by
  have hP := PI_pos
  have r1 := endK_rg 9 x y up rx
  have r2 := endK_rg 9 x' y up rx'
  by_cases he : y = PI
  · rw [he, end9_PI, end9_PI]; exact Int.le_refl _
  rcases end9_case x y rx hy (by omega) up with ⟨f1, e⟩ | ⟨f1, e⟩ <;> rcases end9_case x' y rx' hy (by omega) up with ⟨g1, e'⟩ | ⟨g1, e'⟩ <;> rw [e, e']
  · exact quot_mono hx hy up
  · rw [e] at r1; unfold Fi Rg at *; omega
  · rw [e'] at r2; unfold Fi Rg at *; omega
  · exact hx
theorem end9_zero (y : Int) (hy : 0 < y) (hy2 : y ≤ PI) (up : Bool) : endK 9 0 y up = 0 := by
  by_cases he : y = PI
  · rw [he, end9_PI]
  · rw [endK_fi fi_zero ⟨by have := PI_pos; omega, by omega⟩, roundK_9, quot_zero y (by omega)]
theorem end9_nn {x y : Int} (rx : Rg x) (hx : 0 ≤ x) (hy : 0 < y) (hy2 : y ≤ PI) (up : Bool) : 0 ≤ endK 9 x y up := by
  have h := end9_mono Rg_zero rx hx hy hy2 up
  rw [end9_zero y hy hy2] at h; exact h
theorem end9_np {x y : Int} (rx : Rg x) (hx : x ≤ 0) (hy : 0 < y) (hy2 : y ≤ PI) (up : Bool) : endK 9 x y up ≤ 0 := by
  have h := end9_mono rx Rg_zero hx hy hy2 up
  rw [end9_zero y hy hy2] at h; exact h
theorem end9_anti {x y y' : Int} (rx : Rg x) (hx : 0 ≤ x) (hy : 0 < y) (hyy : y ≤ y') (hy2 : y' ≤ PI) (up : Bool) : endK 9 x y' up ≤ endK 9 x y up := by
  have hP := PI_pos
  by_cases he : y' = PI
  · rw [he, end9_PI]; exact end9_nn rx hx hy (by omega) up
  · rcases end9_case x y rx hy (by omega) up with ⟨f1, e⟩ | ⟨f1, e⟩ <;> rcases end9_case x y' rx (by omega) (by omega) up with ⟨g1, e'⟩ | ⟨g1, e'⟩ <;> rw [e, e']
    · exact quot_anti hx hy hyy up
    · unfold Fi at *; omega
    · unfold Fi at *; omega
    · exact Int.le_refl _
theorem end9_flip {x y : Int} (rx : Rg x) (hy : 0 < y) (hy2 : y ≤ PI) (up : Bool) : endK 9 (-x) y (!up) = -endK 9 x y up := by
  have hP := PI_pos
  by_cases he : y = PI
  · rw [he, end9_PI, end9_PI]; rfl
  · rcases end9_case x y rx hy (by omega) up with ⟨f1, e⟩ | ⟨f1, e⟩ <;> rcases end9_case (-x) y (Rg_neg rx) hy (by omega) (!up) with ⟨g1, e'⟩ | ⟨g1, e'⟩ <;> rw [e, e']
    · exact quot_flip x y (by omega) up
    · unfold Fi at *; omega
    · unfold Fi at *; omega
theorem end9_rise {x y y' : Int} (rx : Rg x) (hx : x ≤ 0) (hy : 0 < y) (hyy : y ≤ y') (hy2 : y' ≤ PI) (up : Bool) : endK 9 x y up ≤ endK 9 x y' up := by
  have h := end9_anti (Rg_neg rx) (show 0 ≤ -x by omega) hy hyy hy2 (!up)
  rw [end9_flip rx hy (by omega) up, end9_flip rx (by omega) hy2 up] at h
  omega
/-- A quotient by a divisor from nought on, in one form. -/
noncomputable def qLo (a c d : Int) : Int := if 0 ≤ a then endK 9 a d false else if 0 < c then endK 9 a c false else -PI
noncomputable def qHi (b c d : Int) : Int := if b ≤ 0 then endK 9 b d true else if 0 < c then endK 9 b c true else PI
theorem divP_q {a b c d : Int} (rA : Rg a) (rB : Rg b) (hab : a ≤ b) (hc : 0 ≤ c) (hd : 0 < d) (hcd : c ≤ d) (hd2 : d ≤ PI) : divPLo a b c d = qLo a c d ∧ divPHi a b c d = qHi b c d := by
  have hP := PI_pos
  unfold divPLo divPHi
  by_cases h0 : a = 0 ∧ b = 0
  · rw [if_pos h0, if_pos h0]
    unfold qLo qHi
    rw [h0.1, h0.2, if_pos (by omega), if_pos (by omega), end9_zero d hd hd2, end9_zero d hd hd2]
    exact ⟨rfl, rfl⟩
  · rw [if_neg h0, if_neg h0]
    by_cases h1 : 0 < c ∧ d < PI
    · rw [if_pos h1, if_pos h1, loN4 9 a b c d rA rB, hiN4 9 a b c d rA rB]
      have hc' := h1.1
      have m1 := fun up => end9_mono rA rB hab hc' (by omega) up
      have m2 := fun up => end9_mono rA rB hab hd (by omega) up
      constructor
      · unfold qLo
        by_cases ha : 0 ≤ a
        · rw [if_pos ha]
          have := m1 false
          have := m2 false
          have := end9_anti rA ha hc' hcd hd2 false
          have := end9_anti rB (by omega) hc' hcd hd2 false
          omega
        · rw [if_neg ha, if_pos hc']
          have := m1 false
          have := m2 false
          have := end9_rise rA (by omega) hc' hcd hd2 false
          omega
      · unfold qHi
        by_cases hb : b ≤ 0
        · rw [if_pos hb]
          have := m1 true
          have := m2 true
          have := end9_rise rA (by omega) hc' hcd hd2 true
          have := end9_rise rB hb hc' hcd hd2 true
          omega
        · rw [if_neg hb, if_pos hc']
          have := m1 true
          have := m2 true
          have := end9_anti rB (by omega) hc' hcd hd2 true
          omega
    · rw [if_neg h1, if_neg h1]
      exact ⟨rfl, rfl⟩
theorem qLo_mono {a a' c c' d d' : Int} (rA : Rg a) (rA' : Rg a') (ha : a ≤ a') (hc : 0 ≤ c) (hcc : c ≤ c') (hd' : 0 < d') (hdd : d' ≤ d) (hcd : c' ≤ d') (hd2 : d ≤ PI) : qLo a c d ≤ qLo a' c' d' := by
  have hP := PI_pos
  unfold qLo
  by_cases h1 : 0 ≤ a'
  · rw [if_pos h1]
    by_cases h2 : 0 ≤ a
    · rw [if_pos h2]
      exact Int.le_trans (end9_anti rA h2 hd' hdd hd2 false) (end9_mono rA rA' ha hd' (by omega) false)
    · rw [if_neg h2]
      have e := end9_nn rA' h1 hd' (by omega) false
      by_cases h3 : 0 < c
      · rw [if_pos h3]
        have := end9_np rA (by omega) h3 (by omega) false
        omega
      · rw [if_neg h3]; omega
  · rw [if_neg h1, if_neg (show ¬ 0 ≤ a by omega)]
    by_cases h3 : 0 < c
    · rw [if_pos h3, if_pos (show 0 < c' by omega)]
      exact Int.le_trans (end9_mono rA rA' ha h3 (by omega) false) (end9_rise rA' (by omega) h3 hcc (by omega) false)
    · rw [if_neg h3]
      by_cases h4 : 0 < c'
      · rw [if_pos h4]; exact (endK_rg 9 a' c' false rA').1
      · rw [if_neg h4]; exact Int.le_refl _
theorem qHi_qLo {b c d : Int} (rB : Rg b) (hc : 0 ≤ c) (hd : 0 < d) (hcd : c ≤ d) (hd2 : d ≤ PI) : qHi b c d = -qLo (-b) c d := by
  have hP := PI_pos
  unfold qHi qLo
  by_cases h : b ≤ 0
  · rw [if_pos h, if_pos (show 0 ≤ -b by omega)]
    have := end9_flip rB hd hd2 true
    rw [show (!true) = false from rfl] at this
    omega
  · rw [if_neg h, if_neg (show ¬ 0 ≤ -b by omega)]
    by_cases h3 : 0 < c
    · rw [if_pos h3, if_pos h3]
      have := end9_flip rB h3 (by omega) true
      rw [show (!true) = false from rfl] at this
      omega
    · rw [if_neg h3, if_neg h3, Int.neg_neg]
theorem qHi_mono {b b' c c' d d' : Int} (rB : Rg b) (rB' : Rg b') (hb : b' ≤ b) (hc : 0 ≤ c) (hcc : c ≤ c') (hd' : 0 < d') (hdd : d' ≤ d) (hcd : c' ≤ d') (hd2 : d ≤ PI) : qHi b' c' d' ≤ qHi b c d := by
  rw [qHi_qLo rB hc (by omega) (by omega) hd2, qHi_qLo rB' (by omega) hd' hcd (by omega)]
  have := qLo_mono (Rg_neg rB) (Rg_neg rB') (show -b ≤ -b' by omega) hc hcc hd' hdd hcd hd2
  omega
end Go.Proofs.Yteephgpefhodnaa
