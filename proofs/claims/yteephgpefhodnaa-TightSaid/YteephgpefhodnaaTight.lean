/- Proved: the statement Tight: for every input the call returns true: a result rounded down and up is the same number, or two neighbours. Conditions: none. -/
import Derived.Test.YteephgpefhodnaaK6
import Derived.ProofKit
import Derived.OpenShut
namespace Go.Proofs.Yteephgpefhodnaa.tight
open Go.RowKit Go.Sort Go.Fl Go.ChangeShapes Go.WideShapes Go.ChangeAt
set_option linter.unusedSimpArgs false
set_option linter.unusedVariables false

theorem up_rg {k : Int} (h : Rg k) : Rg (upK k) := upK_rg h
theorem down_rg {k : Int} (h : Rg k) : Rg (downK k) := downK_rg h
theorem up_k (k : Int) (h : Rg k) (w : World) : Calls Try.prog 19 #[.float .f64 (ofKey (k))] w fun e w' => e = .returned (.float .f64 (ofKey (upK k))) ∧ w = w' := by
  have := spansup_any (ofKey k) (not_nan_ofKey h) (ofKey_lt h) w
  rw [key_ofKey h] at this; exact this
theorem down_k (k : Int) (h : Rg k) (w : World) : Calls Try.prog 20 #[.float .f64 (ofKey (k))] w fun e w' => e = .returned (.float .f64 (ofKey (downK k))) ∧ w = w' := by
  have := spansdown_any (ofKey k) (not_nan_ofKey h) (ofKey_lt h) w
  rw [key_ofKey h] at this; exact this
theorem near_law {L H : Int} (rL : Rg L) (rH : Rg H) (h1 : L ≤ H) (h2 : H ≤ L + 1) (h3 : L < PI) (h4 : -PI < H) : (L = H ∨ (upK L = H ∧ downK H = L)) ∧ (downK (upK L) = L ∨ L = upK L) := by
  have hP := PI_pos
  have e1 : upK L = L + 1 := by unfold upK; split <;> omega
  have e2 : downK H = H - 1 := by unfold downK upK; split <;> omega
  have e3 : downK (L + 1) = L := by unfold downK upK Rg at *; split <;> omega
  rw [e1, e2, e3]; omega
theorem walk (a0 a1 a2 : Int) (w0 : (Lit.int .u64 a0).wf = true) (w1 : (Lit.int .u64 a1).wf = true) (w2 : (Lit.int .i64 a2).wf = true) (w : World) :
    Calls Try.prog 10 #[.int .u64 a0, .int .u64 a1, .int .i64 a2] w fun e w' => e = .returned (.bool true) ∧ Below w.heap.size w w' := by
  have hP := PI_pos
  have hw2 := bounds_i64 w2
  obtain ⟨b1, b2⟩ := hw2
  have wx := wd_of w0
  have wy := wd_of w1
  have OX := keepof_any a0
  have OY := keepof_any a1
  generalize a0.toNat = x at *
  generalize a1.toNat = y at *
  have RD := fun (o : Int) w => spansround_any o x y false wx wy w
  have RU := fun (o : Int) w => spansround_any o x y true wx wy w
  have yes : ∀ o : Int, rok o x y = true → ∃ L H, (∀ up, roundW o x y up = ofKey (roundK o (key x) (key y) up)) ∧ L = roundK o (key x) (key y) false ∧ H = roundK o (key x) (key y) true ∧ Rg L ∧ Rg H ∧ (L = H ∨ (upK L = H ∧ downK H = L)) ∧ (downK (upK L) = L ∨ L = upK L) := by
    intro o h
    have h' := of_decide_eq_true h
    have hk : (o = 3 ∧ 0 ≤ key x) ∨ o = 6 ∨ o = 7 ∨ o = 8 ∨ (o = 9 ∧ key y ≠ 0) := by
      rcases h'.2 with h | ⟨_, h⟩
      · exact .inl h
      · exact .inr h
    have pt := op_point_two hk
    have n := near_law (roundK_rg o (key x) (key y) false) (roundK_rg o (key x) (key y) true) pt.1 pt.2.1 pt.2.2.1 pt.2.2.2
    exact ⟨_, _, fun up => round_yes up h', rfl, rfl, roundK_rg _ _ _ _, roundK_rg _ _ _ _, n.1, n.2⟩
  have no : ∀ o : Int, ¬ rok o x y = true → ∀ up, roundW o x y up = NANW := fun o h up => by unfold roundW; rw [if_neg h]
  by_cases hn : a2 < 0
  · obtain ⟨j, hj⟩ : ∃ j, (-(a2 + 1)).tmod 5 = j := ⟨_, rfl⟩
    have hb : 0 ≤ j ∧ j ≤ 4 := by
      rw [← hj, Int.tmod_eq_emod_of_nonneg (by omega)]; omega
    rcases (show j = 0 ∨ j = 1 ∨ j = 2 ∨ j = 3 ∨ j = 4 by omega) with rfl | rfl | rfl | rfl | rfl
    · have r1 := RD 6
      have r2 := RU 6
      by_cases h : rok 6 x y = true
      · obtain ⟨L, H, e, eL, eH, rL, rH, q1, q2⟩ := yes 6 h
        rw [e, ← eL] at r1
        rw [e, ← eH] at r2
        exact tight_n6_num a0 a1 a2 x y b1 b2 hn hj L H _ _ _ rL rH (up_rg rL) (down_rg rH) (down_rg (up_rg rL)) q1 q2 OX OY r1 r2 (up_k L rL) (down_k H rH) (down_k _ (up_rg rL)) w
      · rw [no 6 h] at r1 r2
        exact tight_n6_nan a0 a1 a2 x y b1 b2 hn hj OX OY r1 r2 w
    · have r1 := RD 7
      have r2 := RU 7
      by_cases h : rok 7 x y = true
      · obtain ⟨L, H, e, eL, eH, rL, rH, q1, q2⟩ := yes 7 h
        rw [e, ← eL] at r1
        rw [e, ← eH] at r2
        exact tight_n7_num a0 a1 a2 x y b1 b2 hn hj L H _ _ _ rL rH (up_rg rL) (down_rg rH) (down_rg (up_rg rL)) q1 q2 OX OY r1 r2 (up_k L rL) (down_k H rH) (down_k _ (up_rg rL)) w
      · rw [no 7 h] at r1 r2
        exact tight_n7_nan a0 a1 a2 x y b1 b2 hn hj OX OY r1 r2 w
    · have r1 := RD 8
      have r2 := RU 8
      by_cases h : rok 8 x y = true
      · obtain ⟨L, H, e, eL, eH, rL, rH, q1, q2⟩ := yes 8 h
        rw [e, ← eL] at r1
        rw [e, ← eH] at r2
        exact tight_n8_num a0 a1 a2 x y b1 b2 hn hj L H _ _ _ rL rH (up_rg rL) (down_rg rH) (down_rg (up_rg rL)) q1 q2 OX OY r1 r2 (up_k L rL) (down_k H rH) (down_k _ (up_rg rL)) w
      · rw [no 8 h] at r1 r2
        exact tight_n8_nan a0 a1 a2 x y b1 b2 hn hj OX OY r1 r2 w
    · have r1 := RD 9
      have r2 := RU 9
      by_cases h : rok 9 x y = true
      · obtain ⟨L, H, e, eL, eH, rL, rH, q1, q2⟩ := yes 9 h
        rw [e, ← eL] at r1
        rw [e, ← eH] at r2
        exact tight_n9_num a0 a1 a2 x y b1 b2 hn hj L H _ _ _ rL rH (up_rg rL) (down_rg rH) (down_rg (up_rg rL)) q1 q2 OX OY r1 r2 (up_k L rL) (down_k H rH) (down_k _ (up_rg rL)) w
      · rw [no 9 h] at r1 r2
        exact tight_n9_nan a0 a1 a2 x y b1 b2 hn hj OX OY r1 r2 w
    · have r1 := RD 3
      have r2 := RU 3
      by_cases h : rok 3 x y = true
      · obtain ⟨L, H, e, eL, eH, rL, rH, q1, q2⟩ := yes 3 h
        rw [e, ← eL] at r1
        rw [e, ← eH] at r2
        exact tight_n3_num a0 a1 a2 x y b1 b2 hn hj L H _ _ _ rL rH (up_rg rL) (down_rg rH) (down_rg (up_rg rL)) q1 q2 OX OY r1 r2 (up_k L rL) (down_k H rH) (down_k _ (up_rg rL)) w
      · rw [no 3 h] at r1 r2
        exact tight_n3_nan a0 a1 a2 x y b1 b2 hn hj OX OY r1 r2 w
  · obtain ⟨j, hj⟩ : ∃ j, a2.tmod 5 = j := ⟨_, rfl⟩
    have hb : 0 ≤ j ∧ j ≤ 4 := by
      rw [← hj, Int.tmod_eq_emod_of_nonneg (by omega)]; omega
    rcases (show j = 0 ∨ j = 1 ∨ j = 2 ∨ j = 3 ∨ j = 4 by omega) with rfl | rfl | rfl | rfl | rfl
    · have r1 := RD 6
      have r2 := RU 6
      by_cases h : rok 6 x y = true
      · obtain ⟨L, H, e, eL, eH, rL, rH, q1, q2⟩ := yes 6 h
        rw [e, ← eL] at r1
        rw [e, ← eH] at r2
        exact tight_p6_num a0 a1 a2 x y b1 b2 hn hj L H _ _ _ rL rH (up_rg rL) (down_rg rH) (down_rg (up_rg rL)) q1 q2 OX OY r1 r2 (up_k L rL) (down_k H rH) (down_k _ (up_rg rL)) w
      · rw [no 6 h] at r1 r2
        exact tight_p6_nan a0 a1 a2 x y b1 b2 hn hj OX OY r1 r2 w
    · have r1 := RD 7
      have r2 := RU 7
      by_cases h : rok 7 x y = true
      · obtain ⟨L, H, e, eL, eH, rL, rH, q1, q2⟩ := yes 7 h
        rw [e, ← eL] at r1
        rw [e, ← eH] at r2
        exact tight_p7_num a0 a1 a2 x y b1 b2 hn hj L H _ _ _ rL rH (up_rg rL) (down_rg rH) (down_rg (up_rg rL)) q1 q2 OX OY r1 r2 (up_k L rL) (down_k H rH) (down_k _ (up_rg rL)) w
      · rw [no 7 h] at r1 r2
        exact tight_p7_nan a0 a1 a2 x y b1 b2 hn hj OX OY r1 r2 w
    · have r1 := RD 8
      have r2 := RU 8
      by_cases h : rok 8 x y = true
      · obtain ⟨L, H, e, eL, eH, rL, rH, q1, q2⟩ := yes 8 h
        rw [e, ← eL] at r1
        rw [e, ← eH] at r2
        exact tight_p8_num a0 a1 a2 x y b1 b2 hn hj L H _ _ _ rL rH (up_rg rL) (down_rg rH) (down_rg (up_rg rL)) q1 q2 OX OY r1 r2 (up_k L rL) (down_k H rH) (down_k _ (up_rg rL)) w
      · rw [no 8 h] at r1 r2
        exact tight_p8_nan a0 a1 a2 x y b1 b2 hn hj OX OY r1 r2 w
    · have r1 := RD 9
      have r2 := RU 9
      by_cases h : rok 9 x y = true
      · obtain ⟨L, H, e, eL, eH, rL, rH, q1, q2⟩ := yes 9 h
        rw [e, ← eL] at r1
        rw [e, ← eH] at r2
        exact tight_p9_num a0 a1 a2 x y b1 b2 hn hj L H _ _ _ rL rH (up_rg rL) (down_rg rH) (down_rg (up_rg rL)) q1 q2 OX OY r1 r2 (up_k L rL) (down_k H rH) (down_k _ (up_rg rL)) w
      · rw [no 9 h] at r1 r2
        exact tight_p9_nan a0 a1 a2 x y b1 b2 hn hj OX OY r1 r2 w
    · have r1 := RD 3
      have r2 := RU 3
      by_cases h : rok 3 x y = true
      · obtain ⟨L, H, e, eL, eH, rL, rH, q1, q2⟩ := yes 3 h
        rw [e, ← eL] at r1
        rw [e, ← eH] at r2
        exact tight_p3_num a0 a1 a2 x y b1 b2 hn hj L H _ _ _ rL rH (up_rg rL) (down_rg rH) (down_rg (up_rg rL)) q1 q2 OX OY r1 r2 (up_k L rL) (down_k H rH) (down_k _ (up_rg rL)) w
      · rw [no 3 h] at r1 r2
        exact tight_p3_nan a0 a1 a2 x y b1 b2 hn hj OX OY r1 r2 w

theorem own : ownKnob Try.prog.godebug = none := by kernel_rfl
set_option maxRecDepth 100000 in
theorem lifted (os : Os) (started : os.Started) (H : Type) (enc : TypeId × Value → H) :
    ReturnsInHanded {} Try.checked os 10 .any (Rows.tightSpec.pre6 enc Try.prog Try.f10 Rows.tightRow.domain false) (Rows.tightSpec.post enc Try.prog Try.f10 false true false false) := by
  refine returnsInHanded_of_change (C := Try.checked) own started (by kernel_rfl) Try.func10
    (ChangeSpec.witness6 (enc := enc) (C := Try.checked) false ⟨#[], #[.int .u64 0, .int .u64 0, .int .i64 0], []⟩ 8 (by kernel_rfl) (by kernel_rfl) (by kernel_rfl) (by kernel_rfl)) ?_
  intro W base args ds gs before hval0 hW hcnd _
  have hval : ∀ (j : Nat) t v, Try.f10.params[j]? = some t → args[j]? = some v → Value.okWide Try.prog W .any base t v := hval0
  have hW' := hW
  obtain ⟨p, q, hA0, hV, rfl, hfz, hnd⟩ := hW
  have hA : DataW.TrodAll enc Try.prog W 0 (fun _ => true) true Try.f10.params.toList args.toList ds p := hA0
  rw [Try.params10] at hA hval
  obtain ⟨v0, vs0, d0, ds0, p0, q0, hargs, rfl, rfl, h0, r0⟩ := trodAll_cons hA
  obtain ⟨v1, vs1, d1, ds1, p1, q1, rfl, rfl, rfl, h1, r1⟩ := trodAll_cons r0
  obtain ⟨v2, vs2, d2, ds2, p2, q2, rfl, rfl, rfl, h2, r2⟩ := trodAll_cons r1
  obtain ⟨rfl, rfl, rfl⟩ := trodAll_nil r2
  obtain rfl : args = #[v0, v1, v2] := by cases args; simp_all
  obtain ⟨rfl, rfl⟩ := trodVars_none hV
  obtain ⟨a0, rfl, rfl, rfl, w0⟩ := open_int Try.underlying25 (hval 0 25 v0 rfl rfl) h0
  obtain ⟨a1, rfl, rfl, rfl, w1⟩ := open_int Try.underlying25 (hval 1 25 v1 rfl rfl) h1
  obtain ⟨a2, rfl, rfl, rfl, w2⟩ := open_int Try.underlying3 (hval 2 3 v2 rfl rfl) h2
  clear hA0 hval0
  simp only [List.append_nil] at hW'
  refine (walk a0 a1 a2 w0 w1 w2 W).mono fun e W' ⟨he, hg⟩ => ?_
  subst he
  exact ⟨_, rfl, _, _, _, [], [], [], hW', (trodAll_cons_mk (shut_bool Try.underlying4 _) trodAll_mk0), (trodAll_cons_mk (shut_int Try.underlying25 w0) (trodAll_cons_mk (shut_int Try.underlying25 w1) (trodAll_cons_mk (shut_int Try.underlying3 w2) trodAll_mk0))), rfl, hg.frame _, fun h => by cases h⟩

theorem over : Rows.tightRow.holds Try.pinned (OpenSpec.ofChange Rows.tightSpec) :=
  OpenClaim.holds_of_wide 10 Try.f10 rfl rfl rfl rfl rfl rfl rfl ⟨rfl, rfl, rfl, rfl, rfl⟩ rfl rfl rfl rfl rfl (by kernel_rfl) Try.func10 (by kernel_rfl)
    (of_decide_eq_true (by kernel_rfl)) (by unfold Func.isWrapper; first | (rw [if_pos (by decide +kernel)]; kernel_rfl) | (rw [if_neg (by decide +kernel)]; exact ⟨rfl, rfl⟩))
    (fun os started H enc _ => lifted os started H enc)

theorem proved : Rows.TightSaid :=
  over
#print axioms proved
end Go.Proofs.Yteephgpefhodnaa.tight
