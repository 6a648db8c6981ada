/- Proved: the statement Signs: for every input the call returns true: what signs and the order of two intervals do. Conditions: none. -/
import Derived.Test.YteephgpefhodnaaK4
import Derived.ProofKit
import Derived.OpenShut
namespace Go.Proofs.Yteephgpefhodnaa.signs
open Go.RowKit Go.Sort Go.Fl Go.ChangeShapes Go.WideShapes Go.ChangeAt
set_option linter.unusedSimpArgs false
set_option linter.unusedVariables false

theorem ap (o A B C D X Y : Int) (ho : 0 ≤ o ∧ o ≤ 11) (h : NE A B) (h' : NE C D) (e1 : opLo o A B C D = X) (e2 : opHi o A B C D = Y) (w : World) :
    Calls Try.prog 37 #[.int .i64 o, .agg #[.float .f64 (ofKey (A)), .float .f64 (ofKey (B))], .agg #[.float .f64 (ofKey (C)), .float .f64 (ofKey (D))]] w fun e w' => e = .returned (.agg #[.float .f64 (ofKey (X)), .float .f64 (ofKey (Y))]) ∧ Below w.heap.size w w' := by
  rw [← e1, ← e2]; exact apply_k o A B C D ho h h' w
theorem ne_of {o A B C D : Int} (h : NE A B) (h' : NE C D) (hlt : opLo o A B C D < PI) : NE (opLo o A B C D) (opHi o A B C D) := by
  have i := op_iv o h h'
  refine ⟨i.1, i.2.1, ?_⟩
  rcases i.2.2 with g | g
  · omega
  · exact g
theorem walk (a0 a1 a2 a3 : Int) (w0 : (Lit.int .u64 a0).wf = true) (w1 : (Lit.int .u64 a1).wf = true) (w2 : (Lit.int .u64 a2).wf = true) (w3 : (Lit.int .u64 a3).wf = true) (w : World) :
    Calls Try.prog 11 #[.int .u64 a0, .int .u64 a1, .int .u64 a2, .int .u64 a3] w fun e w' => e = .returned (.bool true) ∧ Below w.heap.size w w' := by
  have hP := PI_pos
  obtain ⟨A, B, hX, sx⟩ := some_any a0 a1 (wd_of w0) (wd_of w1)
  obtain ⟨C, D, hZ, sz⟩ := some_any a2 a3 (wd_of w2) (wd_of w3)
  have hM := hZ.neg
  have hN := hX.neg
  have hA := abs_ne hX
  have s7 := sum_iv hX hZ.neg
  have n7 : NE (opLo 7 A B C D) (opHi 7 A B C D) := ne_of hX hZ (by rw [opLo_7]; exact s7.2.1)
  have n11 : NE (opLo 11 (-B) (-A) (-D) (-C)) (opHi 11 (-B) (-A) (-D) (-C)) := ne_of hN hM (by
    have := hX.2.2.2.2
    have := hZ.2.2.2.2
    rw [opLo_11]; omega)
  have mt := minus_turn hX hZ
  have sq := sqr_abs hX A B A B
  have mi := min_turn A B C D
  have i6 := op_iv 6 hX hZ
  have i8 := op_iv 8 hX hZ
  have i10 := op_iv 10 hX hZ
  have i11 := op_iv 11 hX hZ
  have iU := op_iv 2 hX hX
  exact signs_walk a0 a1 a2 a3 A B C D (opLo 7 A B C D) (opHi 7 A B C D) (absLo A B) (absHi A B) (opLo 2 A B A B) (opHi 2 A B A B) (opLo 11 (-B) (-A) (-D) (-C)) (opHi 11 (-B) (-A) (-D) (-C))
    (opLo 6 A B C D) (opHi 6 A B C D) (opLo 8 A B C D) (opHi 8 A B C D) (opLo 10 A B C D) (opHi 10 A B C D) (opLo 11 A B C D) (opHi 11 A B C D)
    hX.1 hX.2.1 hZ.1 hZ.2.1 n7.1 n7.2.1 hA.1 hA.2.1 iU.1 iU.2.1 n11.1 n11.2.1 i6.1 i6.2.1 i8.1 i8.2.1 i10.1 i10.2.1 i11.1 i11.2.1
    sx sz (ap 0 _ _ _ _ _ _ (by omega) hZ hZ rfl rfl) (ap 0 _ _ _ _ _ _ (by omega) hX hX rfl rfl) (ap 7 _ _ _ _ _ _ (by omega) hX hZ rfl rfl) (ap 6 _ _ _ _ _ _ (by omega) hX hM rfl rfl) (ap 7 _ _ _ _ _ _ (by omega) hZ hX mt.1 mt.2) (ap 0 _ _ _ _ _ _ (by omega) n7.neg n7.neg (Int.neg_neg _) (Int.neg_neg _))
    (ap 6 _ _ _ _ _ _ (by omega) hX hZ rfl rfl) (ap 6 _ _ _ _ _ _ (by omega) hZ hX (add_turn A B C D).1 (add_turn A B C D).2)
    (ap 8 _ _ _ _ _ _ (by omega) hX hZ rfl rfl) (ap 8 _ _ _ _ _ _ (by omega) hZ hX (mul_turn hX hZ).1 (mul_turn hX hZ).2)
    (ap 10 _ _ _ _ _ _ (by omega) hX hZ rfl rfl) (ap 10 _ _ _ _ _ _ (by omega) hZ hX (by rw [opLo_10, opLo_10]; omega) (by rw [opHi_10, opHi_10]; omega))
    (ap 11 _ _ _ _ _ _ (by omega) hX hZ rfl rfl) (ap 11 _ _ _ _ _ _ (by omega) hZ hX (by rw [opLo_11, opLo_11]; omega) (by rw [opHi_11, opHi_11]; omega))
    (ap 1 _ _ _ _ _ _ (by omega) hX hX rfl rfl) (ap 8 _ _ _ _ _ _ (by omega) hA hA sq.1 sq.2) (ap 2 _ _ _ _ _ _ (by omega) hX hX rfl rfl) (ap 11 _ _ _ _ _ _ (by omega) hN hM rfl rfl) (ap 0 _ _ _ _ _ _ (by omega) n11 n11 rfl rfl) (ap 10 _ _ _ _ _ _ (by omega) hX hZ mi.1.symm mi.2.symm) w

theorem own : ownKnob Try.prog.godebug = none := by kernel_rfl
set_option maxRecDepth 100000 in
theorem lifted (os : Os) (started : os.Started) (H : Type) (enc : TypeId × Value → H) :
    ReturnsInHanded {} Try.checked os 11 .any (Rows.signsSpec.pre6 enc Try.prog Try.f11 Rows.signsRow.domain false) (Rows.signsSpec.post enc Try.prog Try.f11 false true false false) := by
  refine returnsInHanded_of_change (C := Try.checked) own started (by kernel_rfl) Try.func11
    (ChangeSpec.witness6 (enc := enc) (C := Try.checked) false ⟨#[], #[.int .u64 0, .int .u64 0, .int .u64 0, .int .u64 0], []⟩ 8 (by kernel_rfl) (by kernel_rfl) (by kernel_rfl) (by kernel_rfl)) ?_
  intro W base args ds gs before hval0 hW hcnd _
  have hval : ∀ (j : Nat) t v, Try.f11.params[j]? = some t → args[j]? = some v → Value.okWide Try.prog W .any base t v := hval0
  have hW' := hW
  obtain ⟨p, q, hA0, hV, rfl, hfz, hnd⟩ := hW
  have hA : DataW.TrodAll enc Try.prog W 0 (fun _ => true) true Try.f11.params.toList args.toList ds p := hA0
  rw [Try.params11] at hA hval
  obtain ⟨v0, vs0, d0, ds0, p0, q0, hargs, rfl, rfl, h0, r0⟩ := trodAll_cons hA
  obtain ⟨v1, vs1, d1, ds1, p1, q1, rfl, rfl, rfl, h1, r1⟩ := trodAll_cons r0
  obtain ⟨v2, vs2, d2, ds2, p2, q2, rfl, rfl, rfl, h2, r2⟩ := trodAll_cons r1
  obtain ⟨v3, vs3, d3, ds3, p3, q3, rfl, rfl, rfl, h3, r3⟩ := trodAll_cons r2
  obtain ⟨rfl, rfl, rfl⟩ := trodAll_nil r3
  obtain rfl : args = #[v0, v1, v2, v3] := by cases args; simp_all
  obtain ⟨rfl, rfl⟩ := trodVars_none hV
  obtain ⟨a0, rfl, rfl, rfl, w0⟩ := open_int Try.underlying25 (hval 0 25 v0 rfl rfl) h0
  obtain ⟨a1, rfl, rfl, rfl, w1⟩ := open_int Try.underlying25 (hval 1 25 v1 rfl rfl) h1
  obtain ⟨a2, rfl, rfl, rfl, w2⟩ := open_int Try.underlying25 (hval 2 25 v2 rfl rfl) h2
  obtain ⟨a3, rfl, rfl, rfl, w3⟩ := open_int Try.underlying25 (hval 3 25 v3 rfl rfl) h3
  clear hA0 hval0
  simp only [List.append_nil] at hW'
  refine (walk a0 a1 a2 a3 w0 w1 w2 w3 W).mono fun e W' ⟨he, hg⟩ => ?_
  subst he
  exact ⟨_, rfl, _, _, _, [], [], [], hW', (trodAll_cons_mk (shut_bool Try.underlying4 _) trodAll_mk0), (trodAll_cons_mk (shut_int Try.underlying25 w0) (trodAll_cons_mk (shut_int Try.underlying25 w1) (trodAll_cons_mk (shut_int Try.underlying25 w2) (trodAll_cons_mk (shut_int Try.underlying25 w3) trodAll_mk0)))), rfl, hg.frame _, fun h => by cases h⟩

theorem over : Rows.signsRow.holds Try.pinned (OpenSpec.ofChange Rows.signsSpec) :=
  OpenClaim.holds_of_wide 11 Try.f11 rfl rfl rfl rfl rfl rfl rfl ⟨rfl, rfl, rfl, rfl, rfl⟩ rfl rfl rfl rfl rfl (by kernel_rfl) Try.func11 (by kernel_rfl)
    (of_decide_eq_true (by kernel_rfl)) (by unfold Func.isWrapper; first | (rw [if_pos (by decide +kernel)]; kernel_rfl) | (rw [if_neg (by decide +kernel)]; exact ⟨rfl, rfl⟩))
    (fun os started H enc _ => lifted os started H enc)

theorem proved : Rows.SignsSaid :=
  over
#print axioms proved
end Go.Proofs.Yteephgpefhodnaa.signs
