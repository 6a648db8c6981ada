/- Proved: the statement Applies: for every input the call returns true: Apply of any two intervals (and what is none), of each operation, is the document's to the bit. Conditions: none. -/
import Derived.Test.YteephgpefhodnaaG6
import Derived.ProofKit
import Derived.OpenShut
namespace Go.Proofs.Yteephgpefhodnaa.applies
open Go.RowKit Go.Sort Go.Fl Go.ChangeShapes Go.WideShapes Go.ChangeAt
set_option linter.unusedSimpArgs false
set_option linter.unusedVariables false

set_option maxRecDepth 4000 in
set_option maxHeartbeats 2000000 in
theorem walk (a0 a1 a2 a3 a4 : Int) (w0 : (Lit.int .u64 a0).wf = true) (w1 : (Lit.int .u64 a1).wf = true) (w2 : (Lit.int .u64 a2).wf = true) (w3 : (Lit.int .u64 a3).wf = true) (w4 : (Lit.int .i64 a4).wf = true) (w : World) :
    Calls Try.prog 9 #[.int .u64 a0, .int .u64 a1, .int .u64 a2, .int .u64 a3, .int .i64 a4] w fun e w' => e = .returned (.bool true) ∧ Below w.heap.size w w' := by
  have ha := wd_of w0
  have hb := wd_of w1
  have hc := wd_of w2
  have hd := wd_of w3
  clear w0 w1 w2 w3 w4
  have O0 := Lib.hid (lawof_any a0); have O1 := Lib.hid (lawof_any a1); have O2 := Lib.hid (lawof_any a2); have O3 := Lib.hid (lawof_any a3)
  generalize a0.toNat = x0 at *
  generalize a1.toNat = x1 at *
  generalize a2.toNat = x2 at *
  generalize a3.toNat = x3 at *
  have ap := fun o w => spansapply_any o x0 x1 x2 x3 ha hb hc hd w
  have rp := fun o w => refapply_any o x0 x1 x2 x3 ha hb hc hd w
  have iv := fun o => ap_iv o _ _ _ _ (tk_iv x0 x1).1 (tk_iv x0 x1).2.1 (tk_iv x2 x3).1 (tk_iv x2 x3).2.1
  obtain ⟨P, hP⟩ : ∃ P : Int → Int, P = fun o => apLo o (tkLo x0 x1) (tkHi x0 x1) (tkLo x2 x3) (tkHi x2 x3) := ⟨_, rfl⟩
  obtain ⟨Q, hQ⟩ : ∃ Q : Int → Int, Q = fun o => apHi o (tkLo x0 x1) (tkHi x0 x1) (tkLo x2 x3) (tkHi x2 x3) := ⟨_, rfl⟩
  have eP : ∀ o, apLo o (tkLo x0 x1) (tkHi x0 x1) (tkLo x2 x3) (tkHi x2 x3) = P o := fun o => by rw [hP]
  have eQ : ∀ o, apHi o (tkLo x0 x1) (tkHi x0 x1) (tkLo x2 x3) (tkHi x2 x3) = Q o := fun o => by rw [hQ]
  simp only [eP, eQ] at ap rp iv
  have AL := Lib.hid (fun o w => alike_refl (P o) (Q o) (iv o).1 (iv o).2.1 w)
  have AP := Lib.hid ap
  have RP := Lib.hid rp
  clear ap rp iv eP eQ hP hQ ha hb hc hd
  go_enter Try.func9, Try.ntmps9
  go_wp2_with (go_at_call 16; (first | (with_reducible refine (O0.out _).mono ?_) | (with_reducible refine (O1.out _).mono ?_) | (with_reducible refine (O2.out _).mono ?_) | (with_reducible refine (O3.out _).mono ?_)); rintro e w' ⟨rfl, rfl⟩)
  refine Hold.i22.go ?_; intro wl H; have F := H.f; dsimp only [Fac] at F
  clear F
  go_loopw [13] (fun k wr => ∃ n : Int, -1 ≤ n ∧ n ≤ 14 ∧ k = .int .i64 n ∧ Hold w wr [(w.heap.size, 0, .float .f64 (x0)), (w.heap.size, 1, .float .f64 (x1)), (w.heap.size + 1, 0, .float .f64 (x2)), (w.heap.size + 1, 1, .float .f64 (x3))]) (fun k _ => (14 - intOf k).toNat)
  case atStart => exact ⟨-1, by omega, by omega, rfl, H⟩
  case round =>
    clear H
    obtain ⟨n, hn1, hn2, rfl, H⟩ := hrel
    have F := H.f; dsimp only [Fac] at F
    by_cases hlt : n < 14
    · by_cases h0 : n < 0
      · go_wp2_with fail
        refine (AP.out _ _).mono ?_; rintro e wp ⟨rfl, hb⟩
        replace H := H.below hb; clear hb; replace F := H.f; dsimp only [Fac] at F
        go_wp2_with fail
        refine (RP.out _ _).mono ?_; rintro e wq ⟨rfl, hb⟩
        have n1 := H.lt; dsimp only [Lts] at n1
        replace H := (H.new2 _ _ _).below hb; dsimp only [add] at H; clear hb; replace F := H.f; dsimp only [Fac] at F
        go_wp2_with fail
        refine (AL.out _ _).mono ?_; rintro e wz ⟨rfl, hb⟩
        have n2 := H.lt; dsimp only [Lts] at n2
        replace H := (H.new2 _ _ _).below hb; dsimp only [add] at H; clear hb; replace F := H.f; dsimp only [Fac] at F
        go_wp2_with fail
        go_roundw
        case rel => exact ⟨n + 1, by omega, by omega, rfl, H.cut 4⟩
        case measure => simp [intOf]; omega
      · go_wp2_with fail
        refine (AP.out _ _).mono ?_; rintro e wp ⟨rfl, hb⟩
        replace H := H.below hb; clear hb; replace F := H.f; dsimp only [Fac] at F
        go_wp2_with fail
        refine (RP.out _ _).mono ?_; rintro e wq ⟨rfl, hb⟩
        have n1 := H.lt; dsimp only [Lts] at n1
        replace H := (H.new2 _ _ _).below hb; dsimp only [add] at H; clear hb; replace F := H.f; dsimp only [Fac] at F
        go_wp2_with fail
        refine (AL.out _ _).mono ?_; rintro e wz ⟨rfl, hb⟩
        have n2 := H.lt; dsimp only [Lts] at n2
        replace H := (H.new2 _ _ _).below hb; dsimp only [add] at H; clear hb; replace F := H.f; dsimp only [Fac] at F
        go_wp2_with fail
        go_roundw
        case rel => exact ⟨n + 1, by omega, by omega, rfl, H.cut 4⟩
        case measure => simp [intOf]; omega
    · go_wp2_with fail
      go_ret
      exact ⟨rfl, H.B⟩

theorem own : ownKnob Try.prog.godebug = none := by kernel_rfl
set_option maxRecDepth 100000 in
theorem lifted (os : Os) (started : os.Started) (H : Type) (enc : TypeId × Value → H) :
    ReturnsInHanded {} Try.checked os 9 .any (Rows.appliesSpec.pre6 enc Try.prog Try.f9 Rows.appliesRow.domain false) (Rows.appliesSpec.post enc Try.prog Try.f9 false true false false) := by
  refine returnsInHanded_of_change (C := Try.checked) own started (by kernel_rfl) Try.func9
    (ChangeSpec.witness6 (enc := enc) (C := Try.checked) false ⟨#[], #[.int .u64 0, .int .u64 0, .int .u64 0, .int .u64 0, .int .i64 0], []⟩ 8 (by kernel_rfl) (by kernel_rfl) (by kernel_rfl) (by kernel_rfl)) ?_
  intro W base args ds gs before hval0 hW hcnd _
  have hval : ∀ (j : Nat) t v, Try.f9.params[j]? = some t → args[j]? = some v → Value.okWide Try.prog W .any base t v := hval0
  have hW' := hW
  obtain ⟨p, q, hA0, hV, rfl, hfz, hnd⟩ := hW
  have hA : DataW.TrodAll enc Try.prog W 0 (fun _ => true) true Try.f9.params.toList args.toList ds p := hA0
  rw [Try.params9] at hA hval
  obtain ⟨v0, vs0, d0, ds0, p0, q0, hargs, rfl, rfl, h0, r0⟩ := trodAll_cons hA
  obtain ⟨v1, vs1, d1, ds1, p1, q1, rfl, rfl, rfl, h1, r1⟩ := trodAll_cons r0
  obtain ⟨v2, vs2, d2, ds2, p2, q2, rfl, rfl, rfl, h2, r2⟩ := trodAll_cons r1
  obtain ⟨v3, vs3, d3, ds3, p3, q3, rfl, rfl, rfl, h3, r3⟩ := trodAll_cons r2
  obtain ⟨v4, vs4, d4, ds4, p4, q4, rfl, rfl, rfl, h4, r4⟩ := trodAll_cons r3
  obtain ⟨rfl, rfl, rfl⟩ := trodAll_nil r4
  obtain rfl : args = #[v0, v1, v2, v3, v4] := by cases args; simp_all
  obtain ⟨rfl, rfl⟩ := trodVars_none hV
  obtain ⟨a0, rfl, rfl, rfl, w0⟩ := open_int Try.underlying25 (hval 0 25 v0 rfl rfl) h0
  obtain ⟨a1, rfl, rfl, rfl, w1⟩ := open_int Try.underlying25 (hval 1 25 v1 rfl rfl) h1
  obtain ⟨a2, rfl, rfl, rfl, w2⟩ := open_int Try.underlying25 (hval 2 25 v2 rfl rfl) h2
  obtain ⟨a3, rfl, rfl, rfl, w3⟩ := open_int Try.underlying25 (hval 3 25 v3 rfl rfl) h3
  obtain ⟨a4, rfl, rfl, rfl, w4⟩ := open_int Try.underlying3 (hval 4 3 v4 rfl rfl) h4
  clear hA0 hval0
  simp only [List.append_nil] at hW'
  refine (walk a0 a1 a2 a3 a4 w0 w1 w2 w3 w4 W).mono fun e W' ⟨he, hg⟩ => ?_
  subst he
  exact ⟨_, rfl, _, _, _, [], [], [], hW', (trodAll_cons_mk (shut_bool Try.underlying4 _) trodAll_mk0), (trodAll_cons_mk (shut_int Try.underlying25 w0) (trodAll_cons_mk (shut_int Try.underlying25 w1) (trodAll_cons_mk (shut_int Try.underlying25 w2) (trodAll_cons_mk (shut_int Try.underlying25 w3) (trodAll_cons_mk (shut_int Try.underlying3 w4) trodAll_mk0))))), rfl, hg.frame _, fun h => by cases h⟩

theorem over : Rows.appliesRow.holds Try.pinned (OpenSpec.ofChange Rows.appliesSpec) :=
  OpenClaim.holds_of_wide 9 Try.f9 rfl rfl rfl rfl rfl rfl rfl ⟨rfl, rfl, rfl, rfl, rfl⟩ rfl rfl rfl rfl rfl (by kernel_rfl) Try.func9 (by kernel_rfl)
    (of_decide_eq_true (by kernel_rfl)) (by unfold Func.isWrapper; first | (rw [if_pos (by decide +kernel)]; kernel_rfl) | (rw [if_neg (by decide +kernel)]; exact ⟨rfl, rfl⟩))
    (fun os started H enc _ => lifted os started H enc)

theorem proved : Rows.AppliesSaid :=
  over
#print axioms proved
end Go.Proofs.Yteephgpefhodnaa.applies
