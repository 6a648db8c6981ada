/- Proved: the statement Sets: for every input the call returns true: what is said of two intervals fits together. Conditions: none. -/
import Derived.Test.YteephgpefhodnaaK3
import Derived.ProofKit
import Derived.OpenShut
namespace Go.Proofs.Yteephgpefhodnaa.sets
open Go.RowKit Go.Sort Go.Fl Go.ChangeShapes Go.WideShapes Go.ChangeAt
set_option linter.unusedSimpArgs false
set_option linter.unusedVariables false

theorem is0 (a b c d : Int) : isB 0 a b c d = decide (a = c ∧ b = d) := rfl
theorem is1 (a b c d : Int) : isB 1 a b c d = decide (b < a ∨ (c ≤ a ∧ b ≤ d)) := rfl
theorem is2 (a b c d : Int) : isB 2 a b c d = decide (b < a ∨ (¬ d < c ∧ (c < a ∨ c = -PI) ∧ (b < d ∨ d = PI))) := rfl
theorem is3 (a b c d : Int) : isB 3 a b c d = decide (b < a ∨ d < c ∨ b < c ∨ d < a) := rfl
theorem is4 (a b c d : Int) : isB 4 a b c d = decide ((b < a ∧ d < c) ∨ (¬ b < a ∧ ¬ d < c ∧ a ≤ c ∧ b ≤ d)) := rfl
theorem is5 (a b c d : Int) : isB 5 a b c d = decide (b < a ∨ d < c ∨ b ≤ c) := rfl
theorem meet_any_iv {A B C D : Int} (h : Iv A B) (h' : Iv C D) : Iv (meetLo A B C D) (meetHi A B C D) := by
  unfold meetLo meetHi
  split
  · exact ⟨Rg_PI, Rg_MI, .inl ⟨rfl, rfl⟩⟩
  · exact meet_iv h h' (by omega)
theorem and_false {p q : Prop} [Decidable p] [Decidable q] (h : p → q) : (decide p && !decide q) = false := by
  by_cases hp : p
  · rw [decide_eq_true (h hp)]; simp
  · rw [decide_eq_false hp]; rfl
theorem meet_case {A B C D : Int} (h : NE A B) (h' : NE C D) : (min B D < max A C ∧ meetLo A B C D = PI ∧ meetHi A B C D = -PI) ∨ (max A C ≤ min B D ∧ meetLo A B C D = max A C ∧ meetHi A B C D = min B D) := by
  unfold meetLo meetHi
  by_cases g : min B D < max A C
  · rw [if_pos g, if_pos g]; exact .inl ⟨g, rfl, rfl⟩
  · rw [if_neg g, if_neg g]; exact .inr ⟨by omega, rfl, rfl⟩

theorem walk (a0 a1 a2 a3 : Int) (w0 : (Lit.int .u64 a0).wf = true) (w1 : (Lit.int .u64 a1).wf = true) (w2 : (Lit.int .u64 a2).wf = true) (w3 : (Lit.int .u64 a3).wf = true) (w : World) :
    Calls Try.prog 13 #[.int .u64 a0, .int .u64 a1, .int .u64 a2, .int .u64 a3] w fun e w' => e = .returned (.bool true) ∧ Below w.heap.size w w' := by
  have hP := PI_pos
  obtain ⟨A, B, hX, sx⟩ := some_any a0 a1 (wd_of w0) (wd_of w1)
  obtain ⟨C, D, hZ, sz⟩ := some_any a2 a3 (wd_of w2) (wd_of w3)
  have im := meet_any_iv hX.iv hZ.iv
  have ih := hull_iv hX.iv hZ.iv
  have mc := meet_case hX hZ
  have mm := meet_k A B C D hX.iv hZ.iv
  obtain ⟨x1, x2, x3, x4, x5⟩ := id hX
  obtain ⟨z1, z2, z3, z4, z5⟩ := id hZ
  have q1 := x1.1; have q2 := x2.2; have q3 := z1.1; have q4 := z2.2
  have q5 := x1.2; have q6 := x2.1; have q7 := z1.2; have q8 := z2.1
  generalize meetLo A B C D = M at *
  generalize meetHi A B C D = N at *
  have eqs := fun (r : Int) (a b c d : Int) (h : Iv a b) (h' : Iv c d) (v : Bool) (e : isB r a b c d = v) (w : World) =>
    (show Calls Try.prog 29 #[.int .i64 r, .agg #[.float .f64 (ofKey (a)), .float .f64 (ofKey (b))], .agg #[.float .f64 (ofKey (c)), .float .f64 (ofKey (d))]] w fun e w' => e = .returned (.bool v) ∧ Below w.heap.size w w' from e ▸ is_k r a b c d h h' w)
  refine sets_walk a0 a1 a2 a3 A B C D M N (min A C) (max B D) x1 x2 z1 z2 im.1 im.2.1 ih.1 ih.2.1 (isB 1 A B C D) (isB 1 C D A B) (isB 2 A B C D) (isB 5 A B C D) (isB 4 A B C D) ?_ ?_ sx sz mm (hull_k A B C D hX.iv hZ.iv)
    (eqs _ _ _ _ _ im hX.iv _ ?_) (eqs _ _ _ _ _ im hZ.iv _ ?_) (eqs _ _ _ _ _ hX.iv ih _ ?_) (eqs _ _ _ _ _ hZ.iv ih _ ?_) (eqs _ _ _ _ _ hX.iv hZ.iv _ rfl) (eqs _ _ _ _ _ im hX.iv _ ?_) (eqs _ _ _ _ _ hZ.iv hX.iv _ rfl) (eqs _ _ _ _ _ hX.iv hZ.iv _ ?_) (eqs _ _ _ _ _ hX.iv hZ.iv _ ?_) (eqs _ _ _ _ _ hX.iv hZ.iv _ rfl) (eqs _ _ _ _ _ hX.iv hZ.iv _ rfl) (eqs _ _ _ _ _ hX.iv hZ.iv _ rfl) w
  · rw [is1, is2]; exact and_false (fun h => by omega)
  · rw [is5, is4]; exact and_false (fun h => by omega)
  · rw [is1]; exact decide_eq_true (by omega)
  · rw [is1]; exact decide_eq_true (by omega)
  · rw [is1]; exact decide_eq_true (by omega)
  · rw [is1]; exact decide_eq_true (by omega)
  · rw [is0, is1]; exact decide_eq_decide.2 (by omega)
  · rw [is0, is1, is1, ← Bool.decide_and]; exact decide_eq_decide.2 (by omega)
  · rw [is3]; exact decide_eq_decide.2 (by omega)

theorem own : ownKnob Try.prog.godebug = none := by kernel_rfl
set_option maxRecDepth 100000 in
theorem lifted (os : Os) (started : os.Started) (H : Type) (enc : TypeId × Value → H) :
    ReturnsInHanded {} Try.checked os 13 .any (Rows.setsSpec.pre6 enc Try.prog Try.f13 Rows.setsRow.domain false) (Rows.setsSpec.post enc Try.prog Try.f13 false true false false) := by
  refine returnsInHanded_of_change (C := Try.checked) own started (by kernel_rfl) Try.func13
    (ChangeSpec.witness6 (enc := enc) (C := Try.checked) false ⟨#[], #[.int .u64 0, .int .u64 0, .int .u64 0, .int .u64 0], []⟩ 8 (by kernel_rfl) (by kernel_rfl) (by kernel_rfl) (by kernel_rfl)) ?_
  intro W base args ds gs before hval0 hW hcnd _
  have hval : ∀ (j : Nat) t v, Try.f13.params[j]? = some t → args[j]? = some v → Value.okWide Try.prog W .any base t v := hval0
  have hW' := hW
  obtain ⟨p, q, hA0, hV, rfl, hfz, hnd⟩ := hW
  have hA : DataW.TrodAll enc Try.prog W 0 (fun _ => true) true Try.f13.params.toList args.toList ds p := hA0
  rw [Try.params13] at hA hval
  obtain ⟨v0, vs0, d0, ds0, p0, q0, hargs, rfl, rfl, h0, r0⟩ := trodAll_cons hA
  obtain ⟨v1, vs1, d1, ds1, p1, q1, rfl, rfl, rfl, h1, r1⟩ := trodAll_cons r0
  obtain ⟨v2, vs2, d2, ds2, p2, q2, rfl, rfl, rfl, h2, r2⟩ := trodAll_cons r1
  obtain ⟨v3, vs3, d3, ds3, p3, q3, rfl, rfl, rfl, h3, r3⟩ := trodAll_cons r2
  obtain ⟨rfl, rfl, rfl⟩ := trodAll_nil r3
  obtain rfl : args = #[v0, v1, v2, v3] := by cases args; simp_all
  obtain ⟨rfl, rfl⟩ := trodVars_none hV
  obtain ⟨a0, rfl, rfl, rfl, w0⟩ := open_int Try.underlying25 (hval 0 25 v0 rfl rfl) h0
  obtain ⟨a1, rfl, rfl, rfl, w1⟩ := open_int Try.underlying25 (hval 1 25 v1 rfl rfl) h1
  obtain ⟨a2, rfl, rfl, rfl, w2⟩ := open_int Try.underlying25 (hval 2 25 v2 rfl rfl) h2
  obtain ⟨a3, rfl, rfl, rfl, w3⟩ := open_int Try.underlying25 (hval 3 25 v3 rfl rfl) h3
  clear hA0 hval0
  simp only [List.append_nil] at hW'
  refine (walk a0 a1 a2 a3 w0 w1 w2 w3 W).mono fun e W' ⟨he, hg⟩ => ?_
  subst he
  exact ⟨_, rfl, _, _, _, [], [], [], hW', (trodAll_cons_mk (shut_bool Try.underlying4 _) trodAll_mk0), (trodAll_cons_mk (shut_int Try.underlying25 w0) (trodAll_cons_mk (shut_int Try.underlying25 w1) (trodAll_cons_mk (shut_int Try.underlying25 w2) (trodAll_cons_mk (shut_int Try.underlying25 w3) trodAll_mk0)))), rfl, hg.frame _, fun h => by cases h⟩

theorem over : Rows.setsRow.holds Try.pinned (OpenSpec.ofChange Rows.setsSpec) :=
  OpenClaim.holds_of_wide 13 Try.f13 rfl rfl rfl rfl rfl rfl rfl ⟨rfl, rfl, rfl, rfl, rfl⟩ rfl rfl rfl rfl rfl (by kernel_rfl) Try.func13 (by kernel_rfl)
    (of_decide_eq_true (by kernel_rfl)) (by unfold Func.isWrapper; first | (rw [if_pos (by decide +kernel)]; kernel_rfl) | (rw [if_neg (by decide +kernel)]; exact ⟨rfl, rfl⟩))
    (fun os started H enc _ => lifted os started H enc)

theorem proved : Rows.SetsSaid :=
  over
#print axioms proved
end Go.Proofs.Yteephgpefhodnaa.sets
