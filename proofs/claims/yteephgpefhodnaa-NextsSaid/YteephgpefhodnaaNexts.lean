/- Proved: the statement Nexts: for every input the call returns true: Up and Down of any bits are the document answer. Conditions: none. -/
import Derived.Test.YteephgpefhodnaaA3
import Derived.ProofKit
import Derived.OpenShut
namespace Go.Proofs.Yteephgpefhodnaa.nexts
open Go.RowKit Go.Sort Go.Fl Go.ChangeShapes Go.WideShapes Go.ChangeAt
set_option linter.unusedSimpArgs false
set_option linter.unusedVariables false

theorem walk (a0 : Int) (w0 : (Lit.int .u64 a0).wf = true) (w : World) :
    Calls Try.prog 5 #[.int .u64 a0] w fun e w' => e = .returned (.bool true) ∧ Below w.heap.size w w' := by
  have hw := wd_of w0
  by_cases hx : nan a0.toNat
  · go_enter Try.func5, Try.ntmps5
    go_wp2_with (first | (go_at_call 16; refine (lawof_any _ _).mono ?_; rintro e w' ⟨rfl, rfl⟩) | (go_at_call 19; refine (spansup_nan _ hx _).mono ?_; rintro e w1 ⟨r1, n1, x1, rfl, B1⟩) | (go_at_call 20; refine (spansdown_nan _ hx hw _).mono ?_; rintro e w2 ⟨r2, n2, x2, rfl, B2⟩) | (go_at_call 21; refine (refup_nan _ hx _).mono ?_; rintro e w' ⟨rfl, rfl⟩) | (go_at_call 22; refine (refdown_nan _ hx hw _).mono ?_; rintro e w3 ⟨r3, n3, x3, rfl, B3⟩) | (go_at_call 23; refine (same_nan _ _ (by assumption) (by assumption) _).mono ?_; rintro e w' ⟨rfl, rfl⟩))
    go_ret
    exact ⟨rfl, below_step (below_step B1 B1.size B2) (below_step B1 B1.size B2).size B3⟩
  · go_enter Try.func5, Try.ntmps5
    go_wp2_with (first | (go_at_call 16; refine (lawof_any _ _).mono ?_; rintro e w' ⟨rfl, rfl⟩) | (go_at_call 19; refine (spansup_any _ hx hw _).mono ?_; rintro e w' ⟨rfl, rfl⟩) | (go_at_call 20; refine (spansdown_any _ hx hw _).mono ?_; rintro e w' ⟨rfl, rfl⟩) | (go_at_call 21; refine (refup_any _ hx hw _).mono ?_; rintro e w' ⟨rfl, rfl⟩) | (go_at_call 22; refine (refdown_any _ hx hw _).mono ?_; rintro e w' ⟨rfl, rfl⟩) | (go_at_call 23; refine (same_refl _ _).mono ?_; rintro e w' ⟨rfl, rfl⟩))
    go_ret
    exact ⟨rfl, Below.refl _ _⟩

theorem own : ownKnob Try.prog.godebug = none := by kernel_rfl
set_option maxRecDepth 100000 in
theorem lifted (os : Os) (started : os.Started) (H : Type) (enc : TypeId × Value → H) :
    ReturnsInHanded {} Try.checked os 5 .any (Rows.nextsSpec.pre6 enc Try.prog Try.f5 Rows.nextsRow.domain false) (Rows.nextsSpec.post enc Try.prog Try.f5 false true false false) := by
  refine returnsInHanded_of_change (C := Try.checked) own started (by kernel_rfl) Try.func5
    (ChangeSpec.witness6 (enc := enc) (C := Try.checked) false ⟨#[], #[.int .u64 0], []⟩ 8 (by kernel_rfl) (by kernel_rfl) (by kernel_rfl) (by kernel_rfl)) ?_
  intro W base args ds gs before hval0 hW hcnd _
  have hval : ∀ (j : Nat) t v, Try.f5.params[j]? = some t → args[j]? = some v → Value.okWide Try.prog W .any base t v := hval0
  have hW' := hW
  obtain ⟨p, q, hA0, hV, rfl, hfz, hnd⟩ := hW
  have hA : DataW.TrodAll enc Try.prog W 0 (fun _ => true) true Try.f5.params.toList args.toList ds p := hA0
  rw [Try.params5] at hA hval
  obtain ⟨v0, vs0, d0, ds0, p0, q0, hargs, rfl, rfl, h0, r0⟩ := trodAll_cons hA
  obtain ⟨rfl, rfl, rfl⟩ := trodAll_nil r0
  obtain rfl : args = #[v0] := by cases args; simp_all
  obtain ⟨rfl, rfl⟩ := trodVars_none hV
  obtain ⟨a0, rfl, rfl, rfl, w0⟩ := open_int Try.underlying25 (hval 0 25 v0 rfl rfl) h0
  clear hA0 hval0
  simp only [List.append_nil] at hW'
  refine (walk a0 w0 W).mono fun e W' ⟨he, hg⟩ => ?_
  subst he
  exact ⟨_, rfl, _, _, _, [], [], [], hW', (trodAll_cons_mk (shut_bool Try.underlying4 _) trodAll_mk0), (trodAll_cons_mk (shut_int Try.underlying25 w0) trodAll_mk0), rfl, hg.frame _, fun h => by cases h⟩

theorem over : Rows.nextsRow.holds Try.pinned (OpenSpec.ofChange Rows.nextsSpec) :=
  OpenClaim.holds_of_wide 5 Try.f5 rfl rfl rfl rfl rfl rfl rfl ⟨rfl, rfl, rfl, rfl, rfl⟩ rfl rfl rfl rfl rfl (by kernel_rfl) Try.func5 (by kernel_rfl)
    (of_decide_eq_true (by kernel_rfl)) (by unfold Func.isWrapper; first | (rw [if_pos (by decide +kernel)]; kernel_rfl) | (rw [if_neg (by decide +kernel)]; exact ⟨rfl, rfl⟩))
    (fun os started H enc _ => lifted os started H enc)

theorem proved : Rows.NextsSaid :=
  over
#print axioms proved
end Go.Proofs.Yteephgpefhodnaa.nexts
