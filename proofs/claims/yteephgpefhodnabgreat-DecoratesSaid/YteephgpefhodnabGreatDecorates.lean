/- Proved: the statement Decorates: for every input the call returns true: Decorate and Do of any two intervals and decorations, of each operation, are the document's to the bit. Conditions: none. -/
import Derived.Test.YteephgpefhodnabGreatE3
import Derived.ProofKit
import Derived.OpenShut
namespace Go.Proofs.YteephgpefhodnabGreat.decorates
open Go.RowKit Go.Sort Go.Fl Go.ChangeShapes Go.WideShapes Go.ChangeAt
set_option linter.unusedSimpArgs false
set_option linter.unusedVariables false

set_option maxRecDepth 4000 in
set_option maxHeartbeats 2000000 in
theorem walk (a0 a1 a2 a3 a4 a5 a6 : Int) (w0 : (Lit.int .u64 a0).wf = true) (w1 : (Lit.int .u64 a1).wf = true) (w2 : (Lit.int .u64 a2).wf = true) (w3 : (Lit.int .u64 a3).wf = true) (w4 : (Lit.int .i64 a4).wf = true) (w5 : (Lit.int .i64 a5).wf = true) (w6 : (Lit.int .i64 a6).wf = true) (w : World) :
    Calls Tryz.prog 3 #[.int .u64 a0, .int .u64 a1, .int .u64 a2, .int .u64 a3, .int .i64 a4, .int .i64 a5, .int .i64 a6] w fun e w' => e = .returned (.bool true) ∧ Below w.heap.size w w' := by
  have ha := wd_of w0
  have hb := wd_of w1
  have hc := wd_of w2
  have hd := wd_of w3
  clear w0 w1 w2 w3 w4 w5 w6
  have O0 := Lib.hid (lawof_any a0); have O1 := Lib.hid (lawof_any a1); have O2 := Lib.hid (lawof_any a2); have O3 := Lib.hid (lawof_any a3)
  generalize a0.toNat = x0 at *
  generalize a1.toNat = x1 at *
  generalize a2.toNat = x2 at *
  generalize a3.toNat = x3 at *
  have ap := fun o w => spansdo_any o x0 x1 x2 x3 a4 a5 ha hb hc hd w
  have rp := fun o w => refdo_any o x0 x1 x2 x3 a4 a5 ha hb hc hd w
  have iv := fun o => z_rg o _ _ _ _ (dD x0 x1 a4) (dD x2 x3 a5) (dc_iv x0 x1 a4) (dc_iv x2 x3 a5)
  have sd := fun w => spansdecorate_any x0 x1 a4 ha hb w
  have rd := fun w => refdecorate_any x0 x1 a4 ha hb w
  have id := dc_iv x0 x1 a4
  obtain ⟨P, hP⟩ : ∃ P : Int → Int, P = fun o => zLo o (dLo x0 x1 a4) (dHi x0 x1 a4) (dLo x2 x3 a5) (dHi x2 x3 a5) (dD x0 x1 a4) (dD x2 x3 a5) := ⟨_, rfl⟩
  have eP : ∀ o, zLo o (dLo x0 x1 a4) (dHi x0 x1 a4) (dLo x2 x3 a5) (dHi x2 x3 a5) (dD x0 x1 a4) (dD x2 x3 a5) = P o := fun o => by rw [hP]
  obtain ⟨Q, hQ⟩ : ∃ Q : Int → Int, Q = fun o => zHi o (dLo x0 x1 a4) (dHi x0 x1 a4) (dLo x2 x3 a5) (dHi x2 x3 a5) (dD x0 x1 a4) (dD x2 x3 a5) := ⟨_, rfl⟩
  have eQ : ∀ o, zHi o (dLo x0 x1 a4) (dHi x0 x1 a4) (dLo x2 x3 a5) (dHi x2 x3 a5) (dD x0 x1 a4) (dD x2 x3 a5) = Q o := fun o => by rw [hQ]
  obtain ⟨R, hR⟩ : ∃ R : Int → Int, R = fun o => zD o (dLo x0 x1 a4) (dHi x0 x1 a4) (dLo x2 x3 a5) (dHi x2 x3 a5) (dD x0 x1 a4) (dD x2 x3 a5) := ⟨_, rfl⟩
  have eR : ∀ o, zD o (dLo x0 x1 a4) (dHi x0 x1 a4) (dLo x2 x3 a5) (dHi x2 x3 a5) (dD x0 x1 a4) (dD x2 x3 a5) = R o := fun o => by rw [hR]
  simp only [eP, eQ, eR] at ap rp iv
  clear eP eQ eR hP hQ hR
  generalize dLo x0 x1 a4 = lo at *
  generalize dHi x0 x1 a4 = hi at *
  generalize dD x0 x1 a4 = dd at *
  have AL := Lib.hid (fun o w => samely_refl (P o) (Q o) (R o) (iv o).1 (iv o).2 w)
  have SL := Lib.hid (fun w => samely_refl lo hi dd id.1 id.2.1 w)
  have AP := Lib.hid ap
  have RP := Lib.hid rp
  have SD := Lib.hid sd
  have RD := Lib.hid rd
  clear ap rp iv sd rd id ha hb hc hd
  go_enter Tryz.func3, Tryz.ntmps3
  go_wp2_with (go_at_call 5; (first | (with_reducible refine (O0.out _).mono ?_) | (with_reducible refine (O1.out _).mono ?_) | (with_reducible refine (O2.out _).mono ?_) | (with_reducible refine (O3.out _).mono ?_)); rintro e w' ⟨rfl, rfl⟩)
  refine Hold.i33.goc ?_; intro wl H; have F := H.f; dsimp only [Fac] at F
  refine (SD.out _).mono ?_; rintro e v1 ⟨rfl, hb⟩
  replace H := H.below hb; clear hb; replace F := H.f; dsimp only [Fac] at F
  go_wp2_with fail
  have n1 := H.lt; dsimp only [Lts] at n1
  refine (H.new3 _ _ _ _).goc ?_; clear H F; intro v2 H; dsimp only [add] at H; have F := H.f; dsimp only [Fac] at F
  refine (RD.out _).mono ?_; rintro e v3 ⟨rfl, hb⟩
  replace H := H.below hb; clear hb; replace F := H.f; dsimp only [Fac] at F
  go_wp2_with fail
  have n2 := H.lt; dsimp only [Lts] at n2
  refine (H.new3 _ _ _ _).goc ?_; clear H F; intro v4 H; dsimp only [add] at H; have F := H.f; dsimp only [Fac] at F
  refine (SL.out _).mono ?_; rintro e v5 ⟨rfl, hb⟩
  replace H := H.below hb; clear hb; replace F := H.f; dsimp only [Fac] at F
  go_wp2_with fail
  replace H := H.cut 6; dsimp only [List.take] at H
  clear F
  go_loopw [20] (fun k wr => ∃ n : Int, -1 ≤ n ∧ n ≤ 14 ∧ k = .int .i64 n ∧ Hold w wr [(w.heap.size, 0, .float .f64 (x0)), (w.heap.size, 1, .float .f64 (x1)), (w.heap.size, 2, .int .i64 (a4)), (w.heap.size + 1, 0, .float .f64 (x2)), (w.heap.size + 1, 1, .float .f64 (x3)), (w.heap.size + 1, 2, .int .i64 (a5))]) (fun k _ => (14 - intOf k).toNat)
  case atStart => exact ⟨-1, by omega, by omega, rfl, H⟩
  case round =>
    clear H
    obtain ⟨n, hn1, hn2, rfl, H⟩ := hrel
    have F := H.f; dsimp only [Fac] at F
    by_cases hlt : n < 14
    · by_cases h0 : n < 0
      · go_wp2_with fail
        refine (AP.out _ _).mono ?_; rintro e wp ⟨rfl, hb⟩
        replace H := H.below hb; clear hb; replace F := H.f; dsimp only [Fac] at F
        go_wp2_with fail
        have n1 := H.lt; dsimp only [Lts] at n1
        refine (H.new3 _ _ _ _).goc ?_; clear H F; intro wq H; dsimp only [add] at H; have F := H.f; dsimp only [Fac] at F
        refine (RP.out _ _).mono ?_; rintro e wr2 ⟨rfl, hb⟩
        replace H := H.below hb; clear hb; replace F := H.f; dsimp only [Fac] at F
        go_wp2_with fail
        have n2 := H.lt; dsimp only [Lts] at n2
        refine (H.new3 _ _ _ _).goc ?_; clear H F; intro ws H; dsimp only [add] at H; have F := H.f; dsimp only [Fac] at F
        refine (AL.out _ _).mono ?_; rintro e wz ⟨rfl, hb⟩
        replace H := H.below hb; clear hb; replace F := H.f; dsimp only [Fac] at F
        go_wp2_with fail
        go_roundw
        case rel => exact ⟨n + 1, by omega, by omega, rfl, H.cut 6⟩
        case measure => simp [intOf]; omega
      · go_wp2_with fail
        refine (AP.out _ _).mono ?_; rintro e wp ⟨rfl, hb⟩
        replace H := H.below hb; clear hb; replace F := H.f; dsimp only [Fac] at F
        go_wp2_with fail
        have n1 := H.lt; dsimp only [Lts] at n1
        refine (H.new3 _ _ _ _).goc ?_; clear H F; intro wq H; dsimp only [add] at H; have F := H.f; dsimp only [Fac] at F
        refine (RP.out _ _).mono ?_; rintro e wr2 ⟨rfl, hb⟩
        replace H := H.below hb; clear hb; replace F := H.f; dsimp only [Fac] at F
        go_wp2_with fail
        have n2 := H.lt; dsimp only [Lts] at n2
        refine (H.new3 _ _ _ _).goc ?_; clear H F; intro ws H; dsimp only [add] at H; have F := H.f; dsimp only [Fac] at F
        refine (AL.out _ _).mono ?_; rintro e wz ⟨rfl, hb⟩
        replace H := H.below hb; clear hb; replace F := H.f; dsimp only [Fac] at F
        go_wp2_with fail
        go_roundw
        case rel => exact ⟨n + 1, by omega, by omega, rfl, H.cut 6⟩
        case measure => simp [intOf]; omega
    · go_wp2_with fail
      go_ret
      exact ⟨rfl, H.B⟩

theorem own : ownKnob Tryz.prog.godebug = none := by kernel_rfl
set_option maxRecDepth 100000 in
theorem lifted (os : Os) (started : os.Started) (H : Type) (enc : TypeId × Value → H) :
    ReturnsInHanded {} Tryz.checked os 3 .any (Rows.decoratesSpec.pre6 enc Tryz.prog Tryz.f3 Rows.decoratesRow.domain false) (Rows.decoratesSpec.post enc Tryz.prog Tryz.f3 false true false false) := by
  refine returnsInHanded_of_change (C := Tryz.checked) own started (by kernel_rfl) Tryz.func3
    (ChangeSpec.witness6 (enc := enc) (C := Tryz.checked) false ⟨#[], #[.int .u64 0, .int .u64 0, .int .u64 0, .int .u64 0, .int .i64 0, .int .i64 0, .int .i64 0], []⟩ 8 (by kernel_rfl) (by kernel_rfl) (by kernel_rfl) (by kernel_rfl)) ?_
  intro W base args ds gs before hval0 hW hcnd _
  have hval : ∀ (j : Nat) t v, Tryz.f3.params[j]? = some t → args[j]? = some v → Value.okWide Tryz.prog W .any base t v := hval0
  have hW' := hW
  obtain ⟨p, q, hA0, hV, rfl, hfz, hnd⟩ := hW
  have hA : DataW.TrodAll enc Tryz.prog W 0 (fun _ => true) true Tryz.f3.params.toList args.toList ds p := hA0
  rw [Tryz.params3] at hA hval
  obtain ⟨v0, vs0, d0, ds0, p0, q0, hargs, rfl, rfl, h0, r0⟩ := trodAll_cons hA
  obtain ⟨v1, vs1, d1, ds1, p1, q1, rfl, rfl, rfl, h1, r1⟩ := trodAll_cons r0
  obtain ⟨v2, vs2, d2, ds2, p2, q2, rfl, rfl, rfl, h2, r2⟩ := trodAll_cons r1
  obtain ⟨v3, vs3, d3, ds3, p3, q3, rfl, rfl, rfl, h3, r3⟩ := trodAll_cons r2
  obtain ⟨v4, vs4, d4, ds4, p4, q4, rfl, rfl, rfl, h4, r4⟩ := trodAll_cons r3
  obtain ⟨v5, vs5, d5, ds5, p5, q5, rfl, rfl, rfl, h5, r5⟩ := trodAll_cons r4
  obtain ⟨v6, vs6, d6, ds6, p6, q6, rfl, rfl, rfl, h6, r6⟩ := trodAll_cons r5
  obtain ⟨rfl, rfl, rfl⟩ := trodAll_nil r6
  obtain rfl : args = #[v0, v1, v2, v3, v4, v5, v6] := by cases args; simp_all
  obtain ⟨rfl, rfl⟩ := trodVars_none hV
  obtain ⟨a0, rfl, rfl, rfl, w0⟩ := open_int Tryz.underlying22 (hval 0 22 v0 rfl rfl) h0
  obtain ⟨a1, rfl, rfl, rfl, w1⟩ := open_int Tryz.underlying22 (hval 1 22 v1 rfl rfl) h1
  obtain ⟨a2, rfl, rfl, rfl, w2⟩ := open_int Tryz.underlying22 (hval 2 22 v2 rfl rfl) h2
  obtain ⟨a3, rfl, rfl, rfl, w3⟩ := open_int Tryz.underlying22 (hval 3 22 v3 rfl rfl) h3
  obtain ⟨a4, rfl, rfl, rfl, w4⟩ := open_int Tryz.underlying3 (hval 4 3 v4 rfl rfl) h4
  obtain ⟨a5, rfl, rfl, rfl, w5⟩ := open_int Tryz.underlying3 (hval 5 3 v5 rfl rfl) h5
  obtain ⟨a6, rfl, rfl, rfl, w6⟩ := open_int Tryz.underlying3 (hval 6 3 v6 rfl rfl) h6
  clear hA0 hval0
  simp only [List.append_nil] at hW'
  refine (walk a0 a1 a2 a3 a4 a5 a6 w0 w1 w2 w3 w4 w5 w6 W).mono fun e W' ⟨he, hg⟩ => ?_
  subst he
  exact ⟨_, rfl, _, _, _, [], [], [], hW', (trodAll_cons_mk (shut_bool Tryz.underlying4 _) trodAll_mk0), (trodAll_cons_mk (shut_int Tryz.underlying22 w0) (trodAll_cons_mk (shut_int Tryz.underlying22 w1) (trodAll_cons_mk (shut_int Tryz.underlying22 w2) (trodAll_cons_mk (shut_int Tryz.underlying22 w3) (trodAll_cons_mk (shut_int Tryz.underlying3 w4) (trodAll_cons_mk (shut_int Tryz.underlying3 w5) (trodAll_cons_mk (shut_int Tryz.underlying3 w6) trodAll_mk0))))))), rfl, hg.frame _, fun h => by cases h⟩

theorem over : Rows.decoratesRow.holds Tryz.pinned (OpenSpec.ofChange Rows.decoratesSpec) :=
  OpenClaim.holds_of_wide 3 Tryz.f3 rfl rfl rfl rfl rfl rfl rfl ⟨rfl, rfl, rfl, rfl, rfl⟩ rfl rfl rfl rfl rfl (by kernel_rfl) Tryz.func3 (by kernel_rfl)
    (of_decide_eq_true (by kernel_rfl)) (by unfold Func.isWrapper; first | (rw [if_pos (by decide +kernel)]; kernel_rfl) | (rw [if_neg (by decide +kernel)]; exact ⟨rfl, rfl⟩))
    (fun os started H enc _ => lifted os started H enc)

theorem proved : Rows.DecoratesSaid :=
  over
#print axioms proved
end Go.Proofs.YteephgpefhodnabGreat.decorates
