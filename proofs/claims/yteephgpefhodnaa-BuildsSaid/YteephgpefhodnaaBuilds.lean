/- Proved: the statement Builds: for every input the call returns true: New of any two ends is the document answer, to the bit. Conditions: none. -/
import Derived.Test.YteephgpefhodnaaA2
import Derived.ProofKit
import Derived.OpenShut
namespace Go.Proofs.Yteephgpefhodnaa.builds
open Go.RowKit Go.Sort Go.Fl Go.ChangeShapes Go.WideShapes Go.ChangeAt
set_option linter.unusedSimpArgs false
set_option linter.unusedVariables false

theorem walk (a0 a1 : Int) (w0 : (Lit.int .u64 a0).wf = true) (w1 : (Lit.int .u64 a1).wf = true) (w : World) :
    Calls Try.prog 4 #[.int .u64 a0, .int .u64 a1] w fun e w' => e = .returned (.bool true) ∧ Below w.heap.size w w' := by
  have ha := wd_of w0
  have hb := wd_of w1
  have ra := (tk_iv a0.toNat a1.toNat).1
  have rb := (tk_iv a0.toNat a1.toNat).2.1
  go_enter Try.func4, Try.ntmps4
  go_wp2_with (first | (go_at_call 16; refine (lawof_any _ _).mono ?_; rintro e w' ⟨rfl, rfl⟩) | (go_at_call 15; refine (new_any _ _ ha hb _).mono ?_; rintro e x1 ⟨rfl, hbx1⟩; have B1 := hbx1) | (go_at_call 17; refine (refnew_any _ _ ha hb _).mono ?_; rintro e x2 ⟨rfl, hbx2⟩; have hz : x1.heap.size < x2.heap.size := Nat.lt_of_lt_of_le (by simp) hbx2.size; have c0 := RowKit.Below.cells hbx2 (b := x1.heap.size) (o := 0) (v := .float .f64 (ofKey (tkLo a0.toNat a1.toNat))) (by simp); have c1 := RowKit.Below.cells hbx2 (b := x1.heap.size) (o := 1) (v := .float .f64 (ofKey (tkHi a0.toNat a1.toNat))) (by simp)) | (go_at_call 18; refine (alike_refl _ _ ra rb _).mono ?_; rintro e x3 ⟨rfl, hbx3⟩; skip))
  have B2 := below_step B1 B1.size (below_alloc hbx2)
  have B3 := below_step B2 B2.size (below_alloc hbx3)
  go_ret
  exact ⟨ret_b (by simp), B3⟩

theorem own : ownKnob Try.prog.godebug = none := by kernel_rfl
set_option maxRecDepth 100000 in
theorem lifted (os : Os) (started : os.Started) (H : Type) (enc : TypeId × Value → H) :
    ReturnsInHanded {} Try.checked os 4 .any (Rows.buildsSpec.pre6 enc Try.prog Try.f4 Rows.buildsRow.domain false) (Rows.buildsSpec.post enc Try.prog Try.f4 false true false false) := by
  refine returnsInHanded_of_change (C := Try.checked) own started (by kernel_rfl) Try.func4
    (ChangeSpec.witness6 (enc := enc) (C := Try.checked) false ⟨#[], #[.int .u64 0, .int .u64 0], []⟩ 8 (by kernel_rfl) (by kernel_rfl) (by kernel_rfl) (by kernel_rfl)) ?_
  intro W base args ds gs before hval0 hW hcnd _
  have hval : ∀ (j : Nat) t v, Try.f4.params[j]? = some t → args[j]? = some v → Value.okWide Try.prog W .any base t v := hval0
  have hW' := hW
  obtain ⟨p, q, hA0, hV, rfl, hfz, hnd⟩ := hW
  have hA : DataW.TrodAll enc Try.prog W 0 (fun _ => true) true Try.f4.params.toList args.toList ds p := hA0
  rw [Try.params4] at hA hval
  obtain ⟨v0, vs0, d0, ds0, p0, q0, hargs, rfl, rfl, h0, r0⟩ := trodAll_cons hA
  obtain ⟨v1, vs1, d1, ds1, p1, q1, rfl, rfl, rfl, h1, r1⟩ := trodAll_cons r0
  obtain ⟨rfl, rfl, rfl⟩ := trodAll_nil r1
  obtain rfl : args = #[v0, v1] := by cases args; simp_all
  obtain ⟨rfl, rfl⟩ := trodVars_none hV
  obtain ⟨a0, rfl, rfl, rfl, w0⟩ := open_int Try.underlying25 (hval 0 25 v0 rfl rfl) h0
  obtain ⟨a1, rfl, rfl, rfl, w1⟩ := open_int Try.underlying25 (hval 1 25 v1 rfl rfl) h1
  clear hA0 hval0
  simp only [List.append_nil] at hW'
  refine (walk a0 a1 w0 w1 W).mono fun e W' ⟨he, hg⟩ => ?_
  subst he
  exact ⟨_, rfl, _, _, _, [], [], [], hW', (trodAll_cons_mk (shut_bool Try.underlying4 _) trodAll_mk0), (trodAll_cons_mk (shut_int Try.underlying25 w0) (trodAll_cons_mk (shut_int Try.underlying25 w1) trodAll_mk0)), rfl, hg.frame _, fun h => by cases h⟩

theorem over : Rows.buildsRow.holds Try.pinned (OpenSpec.ofChange Rows.buildsSpec) :=
  OpenClaim.holds_of_wide 4 Try.f4 rfl rfl rfl rfl rfl rfl rfl ⟨rfl, rfl, rfl, rfl, rfl⟩ rfl rfl rfl rfl rfl (by kernel_rfl) Try.func4 (by kernel_rfl)
    (of_decide_eq_true (by kernel_rfl)) (by unfold Func.isWrapper; first | (rw [if_pos (by decide +kernel)]; kernel_rfl) | (rw [if_neg (by decide +kernel)]; exact ⟨rfl, rfl⟩))
    (fun os started H enc _ => lifted os started H enc)

theorem proved : Rows.BuildsSaid :=
  over
#print axioms proved
end Go.Proofs.Yteephgpefhodnaa.builds
