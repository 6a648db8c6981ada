/- Proved: the statement Reckons: for every input the call returns true: a program of three steps does what Do does; one that is no program gives its error. Conditions: none. -/
import Derived.Test.YteephgpefhodnaaV11
import Derived.ProofKit
import Derived.OpenShut
namespace Go.Proofs.Yteephgpefhodnaa.reckons
open Go.RowKit Go.Sort Go.Fl Go.ChangeShapes Go.WideShapes Go.ChangeAt
set_option linter.unusedSimpArgs false
set_option linter.unusedVariables false

theorem bd_of {n : Int} (h : (Lit.int .i64 n).wf = true) : -9223372036854775808 ≤ n ∧ n ≤ 9223372036854775807 := by
  have h := bounds_i64 h
  omega
theorem wd_three (o : Int) : ∀ s ∈ three o, Wd s.2.2 := by
  intro s hs
  simp only [three, List.mem_cons, List.not_mem_nil, or_false] at hs
  rcases hs with rfl | rfl | rfl <;> exact wd_zero
theorem wd_four (o : Int) : ∀ s ∈ three o ++ [(o, 0, 0)], Wd s.2.2 := by
  intro s hs
  rcases List.mem_append.1 hs with hs | hs
  · exact wd_three o s hs
  · rw [List.mem_singleton.1 hs]; exact wd_zero
theorem wd_two : ∀ s ∈ ([(13, 1, 0), (13, 0, 0)] : List St), Wd s.2.2 := by
  intro s hs
  simp only [List.mem_cons, List.not_mem_nil, or_false] at hs
  rcases hs with rfl | rfl <;> exact wd_zero
theorem walk (a0 a1 a2 a3 a4 : Int) (w0 : (Lit.int .u64 a0).wf = true) (w1 : (Lit.int .u64 a1).wf = true) (w2 : (Lit.int .u64 a2).wf = true) (w3 : (Lit.int .u64 a3).wf = true) (w4 : (Lit.int .i64 a4).wf = true) (w : World) :
    Calls Try.prog 6 #[.int .u64 a0, .int .u64 a1, .int .u64 a2, .int .u64 a3, .int .i64 a4] w fun e w' => e = .returned (.bool true) ∧ Below w.heap.size w w' := by
  obtain ⟨A, B, hX, sx⟩ := some_any a0 a1 (wd_of w0) (wd_of w1)
  obtain ⟨C, D, hZ, sz⟩ := some_any a2 a3 (wd_of w2) (wd_of w3)
  have hb := bd_of w4
  obtain ⟨m, hm⟩ : ∃ m, (a4 < 0 ∧ m = -(a4 + 1)) ∨ (¬ a4 < 0 ∧ m = a4) := by
    by_cases h : a4 < 0
    · exact ⟨_, .inl ⟨h, rfl⟩⟩
    · exact ⟨_, .inr ⟨h, rfl⟩⟩
  have hm0 : 0 ≤ m := by omega
  obtain ⟨j, hj⟩ : ∃ j, m.tmod 6 = j := ⟨_, rfl⟩
  have hjb : 0 ≤ j ∧ j ≤ 5 := by rw [← hj, Int.tmod_eq_emod_of_nonneg hm0]; omega
  have ho : 6 ≤ 6 + j ∧ 6 + j ≤ 11 := by omega
  have dx := fun w => spansdecorate_any (ofKey A) (ofKey B) 4 (ofKey_lt hX.1) (ofKey_lt hX.2.1) w
  have dz := fun w => spansdecorate_any (ofKey C) (ofKey D) 3 (ofKey_lt hZ.1) (ofKey_lt hZ.2.1) w
  have okx := ok_ofD (ofKey A, ofKey B, 4)
  have okz := ok_ofD (ofKey C, ofKey D, 3)
  have ex : ∀ w, Calls Try.prog 24 #[.agg #[.float .f64 (ofKey (A)), .float .f64 (ofKey (B))], .int .i64 4] w fun e w' => e = .returned (.agg #[.float .f64 ((ofD (ofKey A, ofKey B, 4)).1), .float .f64 ((ofD (ofKey A, ofKey B, 4)).2.1), .int .i64 ((ofD (ofKey A, ofKey B, 4)).2.2)]) ∧ Below w.heap.size w w' := dx
  have ez : ∀ w, Calls Try.prog 24 #[.agg #[.float .f64 (ofKey (C)), .float .f64 (ofKey (D))], .int .i64 3] w fun e w' => e = .returned (.agg #[.float .f64 ((ofD (ofKey C, ofKey D, 3)).1), .float .f64 ((ofD (ofKey C, ofKey D, 3)).2.1), .int .i64 ((ofD (ofKey C, ofKey D, 3)).2.2)]) ∧ Below w.heap.size w w' := dz
  clear dx dz
  generalize ofD (ofKey A, ofKey B, 4) = X at *
  generalize ofD (ofKey C, ofKey D, 3) = Z at *
  have DO := fun w => spansdo_any (6 + j) X.1 X.2.1 Z.1 Z.2.1 X.2.2 Z.2.2 okx.wd.1 okx.wd.2 okz.wd.1 okz.wd.2 w
  have rg := z_rg (6 + j) _ _ _ _ (dD X.1 X.2.1 X.2.2) (dD Z.1 Z.2.1 Z.2.2) (dc_iv X.1 X.2.1 X.2.2) (dc_iv Z.1 Z.2.1 Z.2.2)
  have wb : ∀ x ∈ [Z, X], WdD x := by
    intro x hx
    simp only [List.mem_cons, List.not_mem_nil, or_false] at hx
    rcases hx with rfl | rfl
    · exact okz.wd
    · exact okx.wd
  have wb1 : ∀ x ∈ [Z], WdD x := fun x hx => wb x (List.mem_cons.2 (.inl (List.mem_singleton.1 hx)))
  have wb3 : ∀ x ∈ [Z, X, zeroD], WdD x := by
    intro x hx
    simp only [List.mem_cons, List.not_mem_nil, or_false] at hx
    rcases hx with rfl | rfl | rfl
    · exact okz.wd
    · exact okx.wd
    · exact ok_zero.wd
  have E1 := fun vs vb w h1 h2 => spanseval_any (three (6 + j)) [Z, X] vs vb w h1 h2 (wd_three _) wb
  rw [ev_three ho X Z] at E1
  have E2 := fun vs vb w h1 h2 => spanseval_any [(13, 1, 0), (13, 0, 0)] [Z, X] vs vb w h1 h2 wd_two wb
  rw [ev_two X Z] at E2
  have E3 := fun vs vb w h1 h2 => spanseval_any (three (6 + j)) [Z] vs vb w h1 h2 (wd_three _) wb1
  rw [ev_small Z] at E3
  have E4 := fun vs vb w h1 h2 => spanseval_any (three (6 + j) ++ [(6 + j, 0, 0)]) [Z, X] vs vb w h1 h2 (wd_four _) wb
  rw [ev_four ho X Z] at E4
  have E5 := fun vs vb w h1 h2 => spanseval_any (three (6 + j)) [Z, X, zeroD] vs vb w h1 h2 (wd_three _) wb3
  rw [ev_bad ho X Z] at E5
  exact reck_main a0 a1 a2 a3 a4 m j hb.1 hb.2 hm hj hjb.1 hjb.2 A B C D X Z _ _ _ rg.1 rg.2 sx sz ex ez DO E1 E2 E3 E4 E5 w

theorem own : ownKnob Try.prog.godebug = none := by kernel_rfl
set_option maxRecDepth 100000 in
theorem lifted (os : Os) (started : os.Started) (H : Type) (enc : TypeId × Value → H) :
    ReturnsInHanded {} Try.checked os 6 .any (Rows.reckonsSpec.pre6 enc Try.prog Try.f6 Rows.reckonsRow.domain false) (Rows.reckonsSpec.post enc Try.prog Try.f6 false true false false) := by
  refine returnsInHanded_of_change (C := Try.checked) own started (by kernel_rfl) Try.func6
    (ChangeSpec.witness6 (enc := enc) (C := Try.checked) false ⟨#[], #[.int .u64 0, .int .u64 0, .int .u64 0, .int .u64 0, .int .i64 0], []⟩ 8 (by kernel_rfl) (by kernel_rfl) (by kernel_rfl) (by kernel_rfl)) ?_
  intro W base args ds gs before hval0 hW hcnd _
  have hval : ∀ (j : Nat) t v, Try.f6.params[j]? = some t → args[j]? = some v → Value.okWide Try.prog W .any base t v := hval0
  have hW' := hW
  obtain ⟨p, q, hA0, hV, rfl, hfz, hnd⟩ := hW
  have hA : DataW.TrodAll enc Try.prog W 0 (fun _ => true) true Try.f6.params.toList args.toList ds p := hA0
  rw [Try.params6] at hA hval
  obtain ⟨v0, vs0, d0, ds0, p0, q0, hargs, rfl, rfl, h0, r0⟩ := trodAll_cons hA
  obtain ⟨v1, vs1, d1, ds1, p1, q1, rfl, rfl, rfl, h1, r1⟩ := trodAll_cons r0
  obtain ⟨v2, vs2, d2, ds2, p2, q2, rfl, rfl, rfl, h2, r2⟩ := trodAll_cons r1
  obtain ⟨v3, vs3, d3, ds3, p3, q3, rfl, rfl, rfl, h3, r3⟩ := trodAll_cons r2
  obtain ⟨v4, vs4, d4, ds4, p4, q4, rfl, rfl, rfl, h4, r4⟩ := trodAll_cons r3
  obtain ⟨rfl, rfl, rfl⟩ := trodAll_nil r4
  obtain rfl : args = #[v0, v1, v2, v3, v4] := by cases args; simp_all
  obtain ⟨rfl, rfl⟩ := trodVars_none hV
  obtain ⟨a0, rfl, rfl, rfl, w0⟩ := open_int Try.underlying25 (hval 0 25 v0 rfl rfl) h0
  obtain ⟨a1, rfl, rfl, rfl, w1⟩ := open_int Try.underlying25 (hval 1 25 v1 rfl rfl) h1
  obtain ⟨a2, rfl, rfl, rfl, w2⟩ := open_int Try.underlying25 (hval 2 25 v2 rfl rfl) h2
  obtain ⟨a3, rfl, rfl, rfl, w3⟩ := open_int Try.underlying25 (hval 3 25 v3 rfl rfl) h3
  obtain ⟨a4, rfl, rfl, rfl, w4⟩ := open_int Try.underlying3 (hval 4 3 v4 rfl rfl) h4
  clear hA0 hval0
  simp only [List.append_nil] at hW'
  refine (walk a0 a1 a2 a3 a4 w0 w1 w2 w3 w4 W).mono fun e W' ⟨he, hg⟩ => ?_
  subst he
  exact ⟨_, rfl, _, _, _, [], [], [], hW', (trodAll_cons_mk (shut_bool Try.underlying4 _) trodAll_mk0), (trodAll_cons_mk (shut_int Try.underlying25 w0) (trodAll_cons_mk (shut_int Try.underlying25 w1) (trodAll_cons_mk (shut_int Try.underlying25 w2) (trodAll_cons_mk (shut_int Try.underlying25 w3) (trodAll_cons_mk (shut_int Try.underlying3 w4) trodAll_mk0))))), rfl, hg.frame _, fun h => by cases h⟩

theorem over : Rows.reckonsRow.holds Try.pinned (OpenSpec.ofChange Rows.reckonsSpec) :=
  OpenClaim.holds_of_wide 6 Try.f6 rfl rfl rfl rfl rfl rfl rfl ⟨rfl, rfl, rfl, rfl, rfl⟩ rfl rfl rfl rfl rfl (by kernel_rfl) Try.func6 (by kernel_rfl)
    (of_decide_eq_true (by kernel_rfl)) (by unfold Func.isWrapper; first | (rw [if_pos (by decide +kernel)]; kernel_rfl) | (rw [if_neg (by decide +kernel)]; exact ⟨rfl, rfl⟩))
    (fun os started H enc _ => lifted os started H enc)

theorem proved : Rows.ReckonsSaid :=
  over
#print axioms proved
end Go.Proofs.Yteephgpefhodnaa.reckons
