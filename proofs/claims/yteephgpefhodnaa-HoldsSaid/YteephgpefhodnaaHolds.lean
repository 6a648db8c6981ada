/- Proved: the statement Holds: for every input the call returns true: the result at two numbers lies in the result of the intervals, and lesser intervals give lesser results. Conditions: none. -/
import Derived.Test.YteephgpefhodnaaK5
import Derived.ProofKit
import Derived.OpenShut
namespace Go.Proofs.Yteephgpefhodnaa.holds
open Go.RowKit Go.Sort Go.Fl Go.ChangeShapes Go.WideShapes Go.ChangeAt
set_option linter.unusedSimpArgs false
set_option linter.unusedVariables false

theorem bd_of {n : Int} (h : (Lit.int .i64 n).wf = true) : -9223372036854775808 ≤ n ∧ n ≤ 9223372036854775807 := by
  have h := bounds_i64 h
  omega
theorem walk (a0 a1 a2 a3 a4 a5 a6 : Int) (w0 : (Lit.int .u64 a0).wf = true) (w1 : (Lit.int .u64 a1).wf = true) (w2 : (Lit.int .u64 a2).wf = true) (w3 : (Lit.int .u64 a3).wf = true) (w4 : (Lit.int .u64 a4).wf = true) (w5 : (Lit.int .u64 a5).wf = true) (w6 : (Lit.int .i64 a6).wf = true) (w : World) :
    Calls Try.prog 12 #[.int .u64 a0, .int .u64 a1, .int .u64 a2, .int .u64 a3, .int .u64 a4, .int .u64 a5, .int .i64 a6] w fun e w' => e = .returned (.bool true) ∧ Below w.heap.size w w' := by
  have hP := PI_pos
  have hPI : PI = (INF : Int) := rfl
  obtain ⟨b1, b2⟩ := bd_of w6
  obtain ⟨A, B, hX, sx⟩ := some_any a0 a1 (wd_of w0) (wd_of w1)
  obtain ⟨C, D, hZ, sz⟩ := some_any a2 a3 (wd_of w2) (wd_of w3)
  obtain ⟨u, wu, fu, u1, u2, pu⟩ := point_any A B a4 hX (wd_of w4)
  obtain ⟨v, wv, fv, v1, v2, pv⟩ := point_any C D a5 hZ (wd_of w5)
  have gu : Fi (key u) := by have := fin_key.1 fu; unfold Fi; omega
  have gv : Fi (key v) := by have := fin_key.1 fv; unfold Fi; omega
  have nu := NE_pt gu
  have nv := NE_pt gv
  have go : ∀ o : Int, 0 ≤ o ∧ o ≤ 11 → ((a6 < 0 ∧ (-(a6 + 1)).tmod 12 = o) ∨ (¬ a6 < 0 ∧ a6.tmod 12 = o)) → Calls Try.prog 12 #[.int .u64 a0, .int .u64 a1, .int .u64 a2, .int .u64 a3, .int .u64 a4, .int .u64 a5, .int .i64 a6] w fun e w' => e = .returned (.bool true) ∧ Below w.heap.size w w' := by
    intro o ho hc
    have hH : NE (min A C) (max B D) := by
      obtain ⟨x1, x2, x3, x4, x5⟩ := hX
      obtain ⟨z1, z2, z3, z4, z5⟩ := hZ
      exact ⟨rg_min x1 z1, rg_max x2 z2, by omega, by omega, by omega⟩
    have iR := op_iv o hX hZ
    have iS := op_iv o nu nv
    have iT := op_iv o hH hZ
    have mS := op_mono o hX hZ nu nv u1 u2 v1 v2
    have mR := op_mono o hH hZ hX hZ (show min A C ≤ A by omega) (show B ≤ max B D by omega) (Int.le_refl _) (Int.le_refl _)
    have W1 := fun w => within_any (opLo o (key u) (key u) (key v) (key v)) (opHi o (key u) (key u) (key v) (key v)) (opLo o A B C D) (opHi o A B C D) iS.1 iS.2.1 iR.1 iR.2.1 w
    rw [decide_eq_true mS] at W1
    have W2 := fun w => within_any (opLo o A B C D) (opHi o A B C D) (opLo o (min A C) (max B D) C D) (opHi o (min A C) (max B D) C D) iR.1 iR.2.1 iT.1 iT.2.1 w
    rw [decide_eq_true mR] at W2
    have A1 := fun w => apply_k o A B C D ho hX hZ w
    have A2 := fun w => apply_pt o u v ho fu fv wu wv w
    have A3 := fun w => apply_k o (min A C) (max B D) C D ho hH hZ w
    have HU := fun w => hull_k A B C D hX.iv hZ.iv w
    have RD := fun w => spansround_any o u v false wu wv w
    have RU := fun w => spansround_any o u v true wu wv w
    by_cases hok : fin u ∧ ((o = 3 ∧ 0 ≤ key u) ∨ (fin v ∧ (o = 6 ∨ o = 7 ∨ o = 8 ∨ (o = 9 ∧ key v ≠ 0))))
    · rw [round_yes false hok] at RD
      rw [round_yes true hok] at RU
      have hk : (o = 3 ∧ 0 ≤ key u) ∨ o = 6 ∨ o = 7 ∨ o = 8 ∨ (o = 9 ∧ key v ≠ 0) := by
        rcases hok.2 with h | ⟨_, h⟩
        · exact .inl h
        · exact .inr h
      have pe := op_point gu gv hk
      have pt := op_point_two hk
      have l : opLo o A B C D ≤ roundK o (key u) (key v) false ∧ roundK o (key u) (key v) true ≤ opHi o A B C D := by
        rw [pe.1, pe.2] at mS
        omega
      rcases hc with ⟨c1, c2⟩ | ⟨c1, c2⟩
      · exact holds_n_num a0 a1 a2 a3 a4 a5 a6 o u v b1 b2 c1 c2 A B C D _ _ _ _ _ _ _ _ hX.1 hX.2.1 hZ.1 hZ.2.1 iR.1 iR.2.1 iS.1 iS.2.1 hH.1 hH.2.1 iT.1 iT.2.1 _ _ (roundK_rg _ _ _ _) (roundK_rg _ _ _ _) l.1 pt.1 l.2 sx sz pu pv A1 A2 RD RU W1 HU A3 W2 w
      · exact holds_p_num a0 a1 a2 a3 a4 a5 a6 o u v b1 b2 c1 c2 A B C D _ _ _ _ _ _ _ _ hX.1 hX.2.1 hZ.1 hZ.2.1 iR.1 iR.2.1 iS.1 iS.2.1 hH.1 hH.2.1 iT.1 iT.2.1 _ _ (roundK_rg _ _ _ _) (roundK_rg _ _ _ _) l.1 pt.1 l.2 sx sz pu pv A1 A2 RD RU W1 HU A3 W2 w
    · rw [round_no false hok] at RD
      rw [round_no true hok] at RU
      rcases hc with ⟨c1, c2⟩ | ⟨c1, c2⟩
      · exact holds_n_nan a0 a1 a2 a3 a4 a5 a6 o u v b1 b2 c1 c2 A B C D _ _ _ _ _ _ _ _ hX.1 hX.2.1 hZ.1 hZ.2.1 iR.1 iR.2.1 iS.1 iS.2.1 hH.1 hH.2.1 iT.1 iT.2.1 sx sz pu pv A1 A2 RD RU W1 HU A3 W2 w
      · exact holds_p_nan a0 a1 a2 a3 a4 a5 a6 o u v b1 b2 c1 c2 A B C D _ _ _ _ _ _ _ _ hX.1 hX.2.1 hZ.1 hZ.2.1 iR.1 iR.2.1 iS.1 iS.2.1 hH.1 hH.2.1 iT.1 iT.2.1 sx sz pu pv A1 A2 RD RU W1 HU A3 W2 w
  by_cases hn : a6 < 0
  · refine go _ ?_ (.inl ⟨hn, rfl⟩)
    rw [Int.tmod_eq_emod_of_nonneg (by omega)]; omega
  · refine go _ ?_ (.inr ⟨hn, rfl⟩)
    rw [Int.tmod_eq_emod_of_nonneg (by omega)]; omega

theorem own : ownKnob Try.prog.godebug = none := by kernel_rfl
set_option maxRecDepth 100000 in
theorem lifted (os : Os) (started : os.Started) (H : Type) (enc : TypeId × Value → H) :
    ReturnsInHanded {} Try.checked os 12 .any (Rows.holdsSpec.pre6 enc Try.prog Try.f12 Rows.holdsRow.domain false) (Rows.holdsSpec.post enc Try.prog Try.f12 false true false false) := by
  refine returnsInHanded_of_change (C := Try.checked) own started (by kernel_rfl) Try.func12
    (ChangeSpec.witness6 (enc := enc) (C := Try.checked) false ⟨#[], #[.int .u64 0, .int .u64 0, .int .u64 0, .int .u64 0, .int .u64 0, .int .u64 0, .int .i64 0], []⟩ 8 (by kernel_rfl) (by kernel_rfl) (by kernel_rfl) (by kernel_rfl)) ?_
  intro W base args ds gs before hval0 hW hcnd _
  have hval : ∀ (j : Nat) t v, Try.f12.params[j]? = some t → args[j]? = some v → Value.okWide Try.prog W .any base t v := hval0
  have hW' := hW
  obtain ⟨p, q, hA0, hV, rfl, hfz, hnd⟩ := hW
  have hA : DataW.TrodAll enc Try.prog W 0 (fun _ => true) true Try.f12.params.toList args.toList ds p := hA0
  rw [Try.params12] at hA hval
  obtain ⟨v0, vs0, d0, ds0, p0, q0, hargs, rfl, rfl, h0, r0⟩ := trodAll_cons hA
  obtain ⟨v1, vs1, d1, ds1, p1, q1, rfl, rfl, rfl, h1, r1⟩ := trodAll_cons r0
  obtain ⟨v2, vs2, d2, ds2, p2, q2, rfl, rfl, rfl, h2, r2⟩ := trodAll_cons r1
  obtain ⟨v3, vs3, d3, ds3, p3, q3, rfl, rfl, rfl, h3, r3⟩ := trodAll_cons r2
  obtain ⟨v4, vs4, d4, ds4, p4, q4, rfl, rfl, rfl, h4, r4⟩ := trodAll_cons r3
  obtain ⟨v5, vs5, d5, ds5, p5, q5, rfl, rfl, rfl, h5, r5⟩ := trodAll_cons r4
  obtain ⟨v6, vs6, d6, ds6, p6, q6, rfl, rfl, rfl, h6, r6⟩ := trodAll_cons r5
  obtain ⟨rfl, rfl, rfl⟩ := trodAll_nil r6
  obtain rfl : args = #[v0, v1, v2, v3, v4, v5, v6] := by cases args; simp_all
  obtain ⟨rfl, rfl⟩ := trodVars_none hV
  obtain ⟨a0, rfl, rfl, rfl, w0⟩ := open_int Try.underlying25 (hval 0 25 v0 rfl rfl) h0
  obtain ⟨a1, rfl, rfl, rfl, w1⟩ := open_int Try.underlying25 (hval 1 25 v1 rfl rfl) h1
  obtain ⟨a2, rfl, rfl, rfl, w2⟩ := open_int Try.underlying25 (hval 2 25 v2 rfl rfl) h2
  obtain ⟨a3, rfl, rfl, rfl, w3⟩ := open_int Try.underlying25 (hval 3 25 v3 rfl rfl) h3
  obtain ⟨a4, rfl, rfl, rfl, w4⟩ := open_int Try.underlying25 (hval 4 25 v4 rfl rfl) h4
  obtain ⟨a5, rfl, rfl, rfl, w5⟩ := open_int Try.underlying25 (hval 5 25 v5 rfl rfl) h5
  obtain ⟨a6, rfl, rfl, rfl, w6⟩ := open_int Try.underlying3 (hval 6 3 v6 rfl rfl) h6
  clear hA0 hval0
  simp only [List.append_nil] at hW'
  refine (walk a0 a1 a2 a3 a4 a5 a6 w0 w1 w2 w3 w4 w5 w6 W).mono fun e W' ⟨he, hg⟩ => ?_
  subst he
  exact ⟨_, rfl, _, _, _, [], [], [], hW', (trodAll_cons_mk (shut_bool Try.underlying4 _) trodAll_mk0), (trodAll_cons_mk (shut_int Try.underlying25 w0) (trodAll_cons_mk (shut_int Try.underlying25 w1) (trodAll_cons_mk (shut_int Try.underlying25 w2) (trodAll_cons_mk (shut_int Try.underlying25 w3) (trodAll_cons_mk (shut_int Try.underlying25 w4) (trodAll_cons_mk (shut_int Try.underlying25 w5) (trodAll_cons_mk (shut_int Try.underlying3 w6) trodAll_mk0))))))), rfl, hg.frame _, fun h => by cases h⟩

theorem over : Rows.holdsRow.holds Try.pinned (OpenSpec.ofChange Rows.holdsSpec) :=
  OpenClaim.holds_of_wide 12 Try.f12 rfl rfl rfl rfl rfl rfl rfl ⟨rfl, rfl, rfl, rfl, rfl⟩ rfl rfl rfl rfl rfl (by kernel_rfl) Try.func12 (by kernel_rfl)
    (of_decide_eq_true (by kernel_rfl)) (by unfold Func.isWrapper; first | (rw [if_pos (by decide +kernel)]; kernel_rfl) | (rw [if_neg (by decide +kernel)]; exact ⟨rfl, rfl⟩))
    (fun os started H enc _ => lifted os started H enc)

theorem proved : Rows.HoldsSaid :=
  over
#print axioms proved
end Go.Proofs.Yteephgpefhodnaa.holds
