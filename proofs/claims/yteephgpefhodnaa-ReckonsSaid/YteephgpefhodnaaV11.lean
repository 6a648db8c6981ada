/- The walks of Reckons. -/
import Derived.Test.YteephgpefhodnaaV10
import Derived.Deep.Cut
namespace Go.Proofs.Yteephgpefhodnaa
open Go.RowKit Go.Sort Go.Fl
set_option linter.unusedSimpArgs false
set_option linter.unusedVariables false

theorem keep_two {w w0 : World} {p q : Nat} {X0 X1 X2 Z0 Z1 Z2 : Value} {l : List (Nat × Nat × Value)} (H : Hold w w0 ((p, 0, X0) :: (p, 1, X1) :: (p, 2, X2) :: (q, 0, Z0) :: (q, 1, Z1) :: (q, 2, Z2) :: l)) :
    ∀ x, Below w0.heap.size w0 x → (x.cell? ⟨q, 0, none⟩ = some Z0 ∧ x.cell? ⟨q, 1, none⟩ = some Z1 ∧ x.cell? ⟨q, 2, none⟩ = some Z2 ∧ x.cell? ⟨p, 0, none⟩ = some X0 ∧ x.cell? ⟨p, 1, none⟩ = some X1 ∧ x.cell? ⟨p, 2, none⟩ = some X2) := fun x hb =>
  have c := (H.below hb).c
  ⟨(c (q, 0, Z0) (by simp)).1, (c (q, 1, Z1) (by simp)).1, (c (q, 2, Z2) (by simp)).1, (c (p, 0, X0) (by simp)).1, (c (p, 1, X1) (by simp)).1, (c (p, 2, X2) (by simp)).1⟩
set_option maxRecDepth 4000 in
set_option maxHeartbeats 4000000 in
theorem reck_main (a b c d op m j : Int) (hb1 : -9223372036854775808 ≤ op) (hb2 : op ≤ 9223372036854775807) (hm : (op < 0 ∧ m = -(op + 1)) ∨ (¬ op < 0 ∧ m = op)) (ho : m.tmod 6 = j) (hj : 0 ≤ j) (hj5 : j ≤ 5) (A B C D : Int) (X Z : De) (k0 k1 kz : Int) (r0 : Rg k0) (r1 : Rg k1)
    (sx : ∀ w, Calls Try.prog 25 #[.int .u64 a, .int .u64 b] w fun e w' => e = .returned (.agg #[.float .f64 (ofKey (A)), .float .f64 (ofKey (B))]) ∧ Below w.heap.size w w') (sz : ∀ w, Calls Try.prog 25 #[.int .u64 c, .int .u64 d] w fun e w' => e = .returned (.agg #[.float .f64 (ofKey (C)), .float .f64 (ofKey (D))]) ∧ Below w.heap.size w w') (dx : ∀ w, Calls Try.prog 24 #[.agg #[.float .f64 (ofKey (A)), .float .f64 (ofKey (B))], .int .i64 4] w fun e w' => e = .returned (.agg #[.float .f64 (X.1), .float .f64 (X.2.1), .int .i64 (X.2.2)]) ∧ Below w.heap.size w w') (dz : ∀ w, Calls Try.prog 24 #[.agg #[.float .f64 (ofKey (C)), .float .f64 (ofKey (D))], .int .i64 3] w fun e w' => e = .returned (.agg #[.float .f64 (Z.1), .float .f64 (Z.2.1), .int .i64 (Z.2.2)]) ∧ Below w.heap.size w w') (DO : ∀ w, Calls Try.prog 27 #[.int .i64 (6 + j), .agg #[.float .f64 (X.1), .float .f64 (X.2.1), .int .i64 (X.2.2)], .agg #[.float .f64 (Z.1), .float .f64 (Z.2.1), .int .i64 (Z.2.2)]] w fun e w' => e = .returned (.agg #[.float .f64 (ofKey (k0)), .float .f64 (ofKey (k1)), .int .i64 (kz)]) ∧ Below w.heap.size w w') (E1 : ∀ vs vb w, Own cS 44 0 w vs (three (6 + j)) → Own cD 40 0 w vb [Z, X] → Calls Try.prog 26 #[vs, vb] w fun e w' => e = .returned (.tuple #[.agg #[.float .f64 (ofKey (k0)), .float .f64 (ofKey (k1)), .int .i64 (kz)], .int .i64 0]) ∧ Below w.heap.size w w') (E2 : ∀ vs vb w, Own cS 44 0 w vs [(13, 1, 0), (13, 0, 0)] → Own cD 40 0 w vb [Z, X] → Calls Try.prog 26 #[vs, vb] w fun e w' => e = .returned (.tuple #[.agg #[.float .f64 (0), .float .f64 (0), .int .i64 (0)], .int .i64 2]) ∧ Below w.heap.size w w') (E3 : ∀ vs vb w, Own cS 44 0 w vs (three (6 + j)) → Own cD 40 0 w vb [Z] → Calls Try.prog 26 #[vs, vb] w fun e w' => e = .returned (.tuple #[.agg #[.float .f64 (0), .float .f64 (0), .int .i64 (0)], .int .i64 2]) ∧ Below w.heap.size w w') (E4 : ∀ vs vb w, Own cS 44 0 w vs (three (6 + j) ++ [(6 + j, 0, 0)]) → Own cD 40 0 w vb [Z, X] → Calls Try.prog 26 #[vs, vb] w fun e w' => e = .returned (.tuple #[.agg #[.float .f64 (0), .float .f64 (0), .int .i64 (0)], .int .i64 2]) ∧ Below w.heap.size w w') (E5 : ∀ vs vb w, Own cS 44 0 w vs (three (6 + j)) → Own cD 40 0 w vb [Z, X, zeroD] → Calls Try.prog 26 #[vs, vb] w fun e w' => e = .returned (.tuple #[.agg #[.float .f64 (ofKey (PI)), .float .f64 (ofKey (-PI)), .int .i64 (0)], .int .i64 0]) ∧ Below w.heap.size w w') (w : World) :
    Calls Try.prog 6 #[.int .u64 a, .int .u64 b, .int .u64 c, .int .u64 d, .int .i64 op] w fun e w' => e = .returned (.bool true) ∧ Below w.heap.size w w' := by
  obtain ⟨i0, hi, hz0, hz1, hz2⟩ := info_of info_S
  replace hi := Lib.hid hi; replace hz0 := Lib.hid hz0; replace hz1 := Lib.hid hz1; replace hz2 := Lib.hid hz2
  replace sx := Lib.hid sx; replace sz := Lib.hid sz; replace dx := Lib.hid dx; replace dz := Lib.hid dz; replace DO := Lib.hid DO; replace E1 := Lib.hid E1; replace E2 := Lib.hid E2; replace E3 := Lib.hid E3; replace E4 := Lib.hid E4; replace E5 := Lib.hid E5; have AV := Lib.hid alive_any
  have hw6 : IntKind.i64.wrap (6 + j) = 6 + j := by rw [IntKind.wrap_i64]; omega
  replace hm := Lib.hid hm
  replace ho := Lib.hid ho
  go_enter Try.func6, Try.ntmps6
  go_upto_if 28 with fail
  go_cut [4] from 27 (fun o wx => o = .int .i64 m ∧ wx = w)
  case first =>
    rcases hm.out with ⟨h0, h1⟩ | ⟨h0, h1⟩
    · replace h1 := Lib.hid h1
      go_wp2_with fail
      go_meet
      exact ⟨by rw [h1.out], rfl⟩
    · replace h1 := Lib.hid h1
      go_wp2_with fail
      go_meet
      exact ⟨by rw [h1.out], rfl⟩
  case rest =>
  obtain ⟨rfl, hw⟩ := hcut
  replace hw := hw.symm
  subst hw
  replace ho := ho.out
  go_wp2_with fail
  refine (sx.out _).mono ?_; rintro e w1 ⟨rfl, b1⟩
  have H := (Hold.st w).below b1; clear b1
  go_wp2_with fail
  refine (dx.out _).mono ?_; rintro e w2 ⟨rfl, b2⟩
  replace H := H.below b2; clear b2
  go_wp2_with fail
  refine callGo (p := fun x => Hold w x [(w2.heap.size, 0, .float .f64 X.1), (w2.heap.size, 1, .float .f64 X.2.1), (w2.heap.size, 2, .int .i64 X.2.2)]) (H.new3 _ _ _ _) ?_; clear H; intro w3 H
  refine (sz.out _).mono ?_; rintro e w4 ⟨rfl, b4⟩
  replace H := H.below b4; clear b4
  go_wp2_with fail
  refine (dz.out _).mono ?_; rintro e w5 ⟨rfl, b5⟩
  replace H := H.below b5; clear b5
  have F := H.f; dsimp only [Fac] at F
  have n1 := H.lt; dsimp only [Lts] at n1
  go_wp2_with fail
  refine callGo (p := fun x => Hold w x [(w2.heap.size, 0, .float .f64 X.1), (w2.heap.size, 1, .float .f64 X.2.1), (w2.heap.size, 2, .int .i64 X.2.2), (w5.heap.size, 0, .float .f64 Z.1), (w5.heap.size, 1, .float .f64 Z.2.1), (w5.heap.size, 2, .int .i64 Z.2.2)] ∧ Hid (Own cS 44 0 x (.slice (some ⟨w5.heap.size + 1, 0, none⟩) 3 3) (three (6 + j))) ∧ Hid (Own cD 40 0 x (.slice (some ⟨w5.heap.size + 2, 0, none⟩) 2 2) [Z, X])) ⟨((H.new3 _ _ _ _).al _).al _, Lib.hid (Own.alloc (lit_own (by first | (with_reducible rfl) | (simp [go_sem]; done)) rfl rfl rfl (Nat.le_of_ble_eq_true rfl)) _), Lib.hid (lit_own (by first | (with_reducible rfl) | (simp [go_sem]; done)) rfl rfl rfl (Nat.le_of_ble_eq_true rfl))⟩ ?_
  clear H F n1; rintro w6 ⟨H, OS, OB⟩
  refine (E1.out _ _ _ OS.out OB.out).mono ?_; rintro e w7 ⟨rfl, b7⟩
  replace H := H.below b7; replace OS := Lib.hid (OS.out.grown b7); clear OB b7
  have F := H.f; dsimp only [Fac] at F
  have n1 := H.lt; dsimp only [Lts] at n1
  go_wp2_with fail
  refine callGo (p := fun x => Hold w x [(w2.heap.size, 0, .float .f64 X.1), (w2.heap.size, 1, .float .f64 X.2.1), (w2.heap.size, 2, .int .i64 X.2.2), (w5.heap.size, 0, .float .f64 Z.1), (w5.heap.size, 1, .float .f64 Z.2.1), (w5.heap.size, 2, .int .i64 Z.2.2), (w7.heap.size, 0, .float .f64 (ofKey k0)), (w7.heap.size, 1, .float .f64 (ofKey k1)), (w7.heap.size, 2, .int .i64 kz)] ∧ Hid (Own cS 44 0 x (.slice (some ⟨w5.heap.size + 1, 0, none⟩) 3 3) (three (6 + j)))) ⟨H.new3 _ _ _ _, Lib.hid (OS.out.alloc _)⟩ ?_
  clear H F n1 OS; rintro w8 ⟨H, OS⟩
  refine (DO.out _).mono ?_; rintro e w9 ⟨rfl, b9⟩
  replace H := H.below b9; replace OS := Lib.hid (OS.out.grown b9); clear b9
  have F := H.f; dsimp only [Fac] at F
  have n1 := H.lt; dsimp only [Lts] at n1
  go_upto_region 9 with fail
  refine wpHold (p := fun x => Hold w x [(w2.heap.size, 0, .float .f64 X.1), (w2.heap.size, 1, .float .f64 X.2.1), (w2.heap.size, 2, .int .i64 X.2.2), (w5.heap.size, 0, .float .f64 Z.1), (w5.heap.size, 1, .float .f64 Z.2.1), (w5.heap.size, 2, .int .i64 Z.2.2), (w7.heap.size, 0, .float .f64 (ofKey k0)), (w7.heap.size, 1, .float .f64 (ofKey k1)), (w7.heap.size, 2, .int .i64 kz), (w9.heap.size, 0, .float .f64 (ofKey k0)), (w9.heap.size, 1, .float .f64 (ofKey k1)), (w9.heap.size, 2, .int .i64 kz)] ∧ Hid (Own cS 44 0 x (.slice (some ⟨w5.heap.size + 1, 0, none⟩) 3 3) (three (6 + j)))) ⟨H.new3 _ _ _ _, Lib.hid (OS.out.alloc _)⟩ ?_
  clear H F n1 OS; rintro w10 ⟨H, OS⟩
  have OT : Hid (Own cS 44 0 w10 (.slice (some ⟨w5.heap.size + 1, 0, none⟩) 2 3) [(13, 1, 0), (13, 0, 0)]) := Lib.hid (Own.take (g := w5.heap.size + 1) cS_len OS.out 2 (Nat.le_of_ble_eq_true rfl))
  have n1 := H.lt; dsimp only [Lts] at n1
  have KS' := Lib.hid (keep_two H)
  go_cut [18, 19] from 27 (fun d f wx => f = .int .i64 2 ∧ Hold w wx [(w2.heap.size, 0, .float .f64 X.1), (w2.heap.size, 1, .float .f64 X.2.1), (w2.heap.size, 2, .int .i64 X.2.2), (w5.heap.size, 0, .float .f64 Z.1), (w5.heap.size, 1, .float .f64 Z.2.1), (w5.heap.size, 2, .int .i64 Z.2.2), (w7.heap.size, 0, .float .f64 (ofKey k0)), (w7.heap.size, 1, .float .f64 (ofKey k1)), (w7.heap.size, 2, .int .i64 kz), (w9.heap.size, 0, .float .f64 (ofKey k0)), (w9.heap.size, 1, .float .f64 (ofKey k1)), (w9.heap.size, 2, .int .i64 kz)] ∧ Hid (Own cS 44 0 wx (.slice (some ⟨w5.heap.size + 1, 0, none⟩) 3 3) (three (6 + j))))
  case first =>
    obtain ⟨c0, c1, c2, c3, c4, c5⟩ := KS'.out _ (Below.refl _ _)
    go_region_held3 (fun w' => w'.cell? ⟨w5.heap.size, 0, none⟩ = some (.float .f64 Z.1) ∧ w'.cell? ⟨w5.heap.size, 1, none⟩ = some (.float .f64 Z.2.1) ∧ w'.cell? ⟨w5.heap.size, 2, none⟩ = some (.int .i64 Z.2.2) ∧ w'.cell? ⟨w2.heap.size, 0, none⟩ = some (.float .f64 X.1) ∧ w'.cell? ⟨w2.heap.size, 1, none⟩ = some (.float .f64 X.2.1) ∧ w'.cell? ⟨w2.heap.size, 2, none⟩ = some (.int .i64 X.2.2)) (first | with_reducible exact ⟨c0, c1, c2, c3, c4, c5⟩ | with_reducible exact KS'.out _ hC | with_reducible exact KS'.out _ hBA | (refine KS'.out _ ?_; (repeat (first | with_reducible exact hC | with_reducible exact hBA | with_reducible exact Below.refl _ _ | with_reducible refine bA ?_ _ | with_reducible refine Below.drew ?_ | ((with_reducible refine bS2 ?_ _ ?_); (focus (first | exact Nat.le_refl _ | exact Nat.le_add_right _ _ | exact hBA.size | exact Nat.le_trans hBA.size (Nat.le_add_right _ _) | exact hC.size | exact Nat.le_trans hC.size (Nat.le_add_right _ _) | (simp; omega)))))); done) | go_keep) ((go_at_call 26; refine Calls.mono (E2.out _ _ _ (by (repeat (first | with_reducible exact OS.out | with_reducible exact OA.out | with_reducible exact OT.out | with_reducible exact OBx.out | ((with_reducible refine lit_own ?_ ?_ ?_ ?_ ?_); (focus (first | (with_reducible rfl) | (simp [go_sem]; done))); (focus rfl); (focus rfl); (focus rfl); exact Nat.le_of_ble_eq_true rfl) | with_reducible refine Own.alloc ?_ _ | with_reducible refine Own.drew ?_))) (by (repeat (first | with_reducible exact OS.out | with_reducible exact OA.out | with_reducible exact OT.out | with_reducible exact OBx.out | ((with_reducible refine lit_own ?_ ?_ ?_ ?_ ?_); (focus (first | (with_reducible rfl) | (simp [go_sem]; done))); (focus rfl); (focus rfl); (focus rfl); exact Nat.le_of_ble_eq_true rfl) | with_reducible refine Own.alloc ?_ _ | with_reducible refine Own.drew ?_)))) ?_; rintro e w2_ ⟨rfl, hb2⟩; have hC := bT (w0 := w10) (by (repeat (first | with_reducible exact hC | with_reducible exact hBA | with_reducible exact Below.refl _ _ | with_reducible refine bA ?_ _ | with_reducible refine Below.drew ?_ | ((with_reducible refine bS2 ?_ _ ?_); (focus (first | exact Nat.le_refl _ | exact Nat.le_add_right _ _ | exact hBA.size | exact Nat.le_trans hBA.size (Nat.le_add_right _ _) | exact hC.size | exact Nat.le_trans hC.size (Nat.le_add_right _ _) | (simp; omega))))))) hb2; (first | (refine keepThat (Z3.below (b := w10.heap.size) hb2 ?_) ?_; (focus ((repeat (first | with_reducible exact zz.out | with_reducible refine Z3.drew ?_ | ((with_reducible refine Z3.lit ?_); first | (with_reducible rfl) | (simp [go_sem]; done)) | with_reducible refine Z3.alloc ?_ _)); done)); intro zz; replace zz := Lib.hid zz; obtain ⟨⟨z0, y0⟩, ⟨z1, y1⟩, ⟨z2, y2⟩⟩ := zz.out) | (refine keepThat (Z3.below (b := w10.heap.size + 1) hb2 ?_) ?_; (focus ((repeat (first | with_reducible exact zz.out | with_reducible refine Z3.drew ?_ | ((with_reducible refine Z3.lit ?_); first | (with_reducible rfl) | (simp [go_sem]; done)) | with_reducible refine Z3.alloc ?_ _)); done)); intro zz; replace zz := Lib.hid zz; obtain ⟨⟨z0, y0⟩, ⟨z1, y1⟩, ⟨z2, y2⟩⟩ := zz.out) | skip)))
    all_goals
      go_wp2_with fail
      go_meet
      case rel =>
        refine rel_out H OS rfl ?_
        (repeat (first | with_reducible exact hC | with_reducible exact hBA | with_reducible exact Below.refl _ _ | with_reducible refine bA ?_ _ | with_reducible refine Below.drew ?_ | ((with_reducible refine bS2 ?_ _ ?_); (focus (first | exact Nat.le_refl _ | exact Nat.le_add_right _ _ | exact hBA.size | exact Nat.le_trans hBA.size (Nat.le_add_right _ _) | exact hC.size | exact Nat.le_trans hC.size (Nat.le_add_right _ _) | (simp; omega))))))
  case rest =>

  clear OT KS' n1 H OS
  obtain ⟨rfl, H, OS⟩ := hcut
  have F := H.f; dsimp only [Fac] at F
  have n1 := H.lt; dsimp only [Lts] at n1
  go_wp2_with fail
  refine callGo (p := fun x => Hold w x [(w2.heap.size, 0, .float .f64 X.1), (w2.heap.size, 1, .float .f64 X.2.1), (w2.heap.size, 2, .int .i64 X.2.2), (w5.heap.size, 0, .float .f64 Z.1), (w5.heap.size, 1, .float .f64 Z.2.1), (w5.heap.size, 2, .int .i64 Z.2.2), (w7.heap.size, 0, .float .f64 (ofKey k0)), (w7.heap.size, 1, .float .f64 (ofKey k1)), (w7.heap.size, 2, .int .i64 kz), (w9.heap.size, 0, .float .f64 (ofKey k0)), (w9.heap.size, 1, .float .f64 (ofKey k1)), (w9.heap.size, 2, .int .i64 kz)] ∧ Hid (Own cS 44 0 x (.slice (some ⟨w5.heap.size + 1, 0, none⟩) 3 3) (three (6 + j))) ∧ Hid (Own cD 40 0 x (.slice (some ⟨wc.heap.size, 0, none⟩) 1 1) [Z])) ⟨H.al _, Lib.hid (OS.out.alloc _), Lib.hid (lit_own (by first | (with_reducible rfl) | (simp [go_sem]; done)) rfl rfl rfl (Nat.le_of_ble_eq_true rfl))⟩ ?_
  clear H F n1 OS; rintro w11 ⟨H, OS, OB⟩
  refine (E3.out _ _ _ OS.out OB.out).mono ?_; rintro e w12 ⟨rfl, b12⟩
  replace H := H.below b12; replace OS := Lib.hid (OS.out.grown b12); clear OB b12
  go_upto_region 11 with fail
  refine wpHold (p := fun x => Hold w x [(w2.heap.size, 0, .float .f64 X.1), (w2.heap.size, 1, .float .f64 X.2.1), (w2.heap.size, 2, .int .i64 X.2.2), (w5.heap.size, 0, .float .f64 Z.1), (w5.heap.size, 1, .float .f64 Z.2.1), (w5.heap.size, 2, .int .i64 Z.2.2), (w7.heap.size, 0, .float .f64 (ofKey k0)), (w7.heap.size, 1, .float .f64 (ofKey k1)), (w7.heap.size, 2, .int .i64 kz), (w9.heap.size, 0, .float .f64 (ofKey k0)), (w9.heap.size, 1, .float .f64 (ofKey k1)), (w9.heap.size, 2, .int .i64 kz)] ∧ Hid (Own cS 44 0 x (.slice (some ⟨w5.heap.size + 1, 0, none⟩) 3 3) (three (6 + j)))) ⟨H.al _, Lib.hid (OS.out.alloc _)⟩ ?_
  clear H OS; rintro w13 ⟨H, OS⟩
  have n1 := H.lt; dsimp only [Lts] at n1
  have KS' := Lib.hid (keep_two H)
  go_cut [22, 23] from 27 (fun d f wx => f = .int .i64 2 ∧ Hold w wx [(w2.heap.size, 0, .float .f64 X.1), (w2.heap.size, 1, .float .f64 X.2.1), (w2.heap.size, 2, .int .i64 X.2.2), (w5.heap.size, 0, .float .f64 Z.1), (w5.heap.size, 1, .float .f64 Z.2.1), (w5.heap.size, 2, .int .i64 Z.2.2), (w7.heap.size, 0, .float .f64 (ofKey k0)), (w7.heap.size, 1, .float .f64 (ofKey k1)), (w7.heap.size, 2, .int .i64 kz), (w9.heap.size, 0, .float .f64 (ofKey k0)), (w9.heap.size, 1, .float .f64 (ofKey k1)), (w9.heap.size, 2, .int .i64 kz)] ∧ Hid (Own cS 44 0 wx (.slice (some ⟨w5.heap.size + 1, 0, none⟩) 3 3) (three (6 + j))))
  case first =>
    obtain ⟨c0, c1, c2, c3, c4, c5⟩ := KS'.out _ (Below.refl _ _)
    go_region_held3 (fun w' => w'.cell? ⟨w5.heap.size, 0, none⟩ = some (.float .f64 Z.1) ∧ w'.cell? ⟨w5.heap.size, 1, none⟩ = some (.float .f64 Z.2.1) ∧ w'.cell? ⟨w5.heap.size, 2, none⟩ = some (.int .i64 Z.2.2) ∧ w'.cell? ⟨w2.heap.size, 0, none⟩ = some (.float .f64 X.1) ∧ w'.cell? ⟨w2.heap.size, 1, none⟩ = some (.float .f64 X.2.1) ∧ w'.cell? ⟨w2.heap.size, 2, none⟩ = some (.int .i64 X.2.2)) (first | with_reducible exact ⟨c0, c1, c2, c3, c4, c5⟩ | with_reducible exact KS'.out _ hC | with_reducible exact KS'.out _ hBA | (refine KS'.out _ ?_; (repeat (first | with_reducible exact hC | with_reducible exact hBA | with_reducible exact Below.refl _ _ | with_reducible refine bA ?_ _ | with_reducible refine Below.drew ?_ | ((with_reducible refine bS2 ?_ _ ?_); (focus (first | exact Nat.le_refl _ | exact Nat.le_add_right _ _ | exact hBA.size | exact Nat.le_trans hBA.size (Nat.le_add_right _ _) | exact hC.size | exact Nat.le_trans hC.size (Nat.le_add_right _ _) | (simp; omega)))))); done) | go_keep) (first | (go_at_call 26; refine Calls.mono (E4.out _ _ _ (by (repeat (first | with_reducible exact OS.out | with_reducible exact OA.out | with_reducible exact OT.out | with_reducible exact OBx.out | ((with_reducible refine lit_own ?_ ?_ ?_ ?_ ?_); (focus (first | (with_reducible rfl) | (simp [go_sem]; done))); (focus rfl); (focus rfl); (focus rfl); exact Nat.le_of_ble_eq_true rfl) | with_reducible refine Own.alloc ?_ _ | with_reducible refine Own.drew ?_))) (by (repeat (first | with_reducible exact OS.out | with_reducible exact OA.out | with_reducible exact OT.out | with_reducible exact OBx.out | ((with_reducible refine lit_own ?_ ?_ ?_ ?_ ?_); (focus (first | (with_reducible rfl) | (simp [go_sem]; done))); (focus rfl); (focus rfl); (focus rfl); exact Nat.le_of_ble_eq_true rfl) | with_reducible refine Own.alloc ?_ _ | with_reducible refine Own.drew ?_)))) ?_; rintro e w2_ ⟨rfl, hb2⟩; have hC := bT (w0 := w13) (by (repeat (first | with_reducible exact hC | with_reducible exact hBA | with_reducible exact Below.refl _ _ | with_reducible refine bA ?_ _ | with_reducible refine Below.drew ?_ | ((with_reducible refine bS2 ?_ _ ?_); (focus (first | exact Nat.le_refl _ | exact Nat.le_add_right _ _ | exact hBA.size | exact Nat.le_trans hBA.size (Nat.le_add_right _ _) | exact hC.size | exact Nat.le_trans hC.size (Nat.le_add_right _ _) | (simp; omega))))))) hb2; (first | (refine keepThat (Z3.below (b := w13.heap.size) hb2 ?_) ?_; (focus ((repeat (first | with_reducible exact zz.out | with_reducible refine Z3.drew ?_ | ((with_reducible refine Z3.lit ?_); first | (with_reducible rfl) | (simp [go_sem]; done)) | with_reducible refine Z3.alloc ?_ _)); done)); intro zz; replace zz := Lib.hid zz; obtain ⟨⟨z0, y0⟩, ⟨z1, y1⟩, ⟨z2, y2⟩⟩ := zz.out) | (refine keepThat (Z3.below (b := w13.heap.size + 1) hb2 ?_) ?_; (focus ((repeat (first | with_reducible exact zz.out | with_reducible refine Z3.drew ?_ | ((with_reducible refine Z3.lit ?_); first | (with_reducible rfl) | (simp [go_sem]; done)) | with_reducible refine Z3.alloc ?_ _)); done)); intro zz; replace zz := Lib.hid zz; obtain ⟨⟨z0, y0⟩, ⟨z1, y1⟩, ⟨z2, y2⟩⟩ := zz.out) | (refine keepThat (Z3.below (b := w13.heap.size + 2) hb2 ?_) ?_; (focus ((repeat (first | with_reducible exact zz.out | with_reducible refine Z3.drew ?_ | ((with_reducible refine Z3.lit ?_); first | (with_reducible rfl) | (simp [go_sem]; done)) | with_reducible refine Z3.alloc ?_ _)); done)); intro zz; replace zz := Lib.hid zz; obtain ⟨⟨z0, y0⟩, ⟨z1, y1⟩, ⟨z2, y2⟩⟩ := zz.out) | (refine keepThat (Z3.below (b := wa.heap.size) hb2 ?_) ?_; (focus ((repeat (first | with_reducible exact zz.out | with_reducible refine Z3.drew ?_ | ((with_reducible refine Z3.lit ?_); first | (with_reducible rfl) | (simp [go_sem]; done)) | with_reducible refine Z3.alloc ?_ _)); done)); intro zz; replace zz := Lib.hid zz; obtain ⟨⟨z0, y0⟩, ⟨z1, y1⟩, ⟨z2, y2⟩⟩ := zz.out) | (refine keepThat (Z3.below (b := wa.heap.size + 1) hb2 ?_) ?_; (focus ((repeat (first | with_reducible exact zz.out | with_reducible refine Z3.drew ?_ | ((with_reducible refine Z3.lit ?_); first | (with_reducible rfl) | (simp [go_sem]; done)) | with_reducible refine Z3.alloc ?_ _)); done)); intro zz; replace zz := Lib.hid zz; obtain ⟨⟨z0, y0⟩, ⟨z1, y1⟩, ⟨z2, y2⟩⟩ := zz.out) | skip)) | (refine step_grow rfl _ _ _ rfl 44 i0 _ Try.underlying45 hi.out hz0.out hz1.out hz2.out rfl (three (6 + j)) [(6 + j, 0, 0)] (w5.heap.size + 1) _ 3 1 rfl rfl one_cS (by decide) (by decide) rfl rfl (by (repeat (first | with_reducible exact OS.out | with_reducible exact OA.out | with_reducible exact OT.out | with_reducible exact OBx.out | ((with_reducible refine lit_own ?_ ?_ ?_ ?_ ?_); (focus (first | (with_reducible rfl) | (simp [go_sem]; done))); (focus rfl); (focus rfl); (focus rfl); exact Nat.le_of_ble_eq_true rfl) | with_reducible refine Own.alloc ?_ _ | with_reducible refine Own.drew ?_))) (by (repeat (first | with_reducible exact OS.out | with_reducible exact OA.out | with_reducible exact OT.out | with_reducible exact OBx.out | ((with_reducible refine lit_own ?_ ?_ ?_ ?_ ?_); (focus (first | (with_reducible rfl) | (simp [go_sem]; done))); (focus rfl); (focus rfl); (focus rfl); exact Nat.le_of_ble_eq_true rfl) | with_reducible refine Own.alloc ?_ _ | with_reducible refine Own.drew ?_))) ?_; intro va wa OA bA1; have hBA := bT (w0 := w13) (by (repeat (first | with_reducible exact hC | with_reducible exact hBA | with_reducible exact Below.refl _ _ | with_reducible refine bA ?_ _ | with_reducible refine Below.drew ?_ | ((with_reducible refine bS2 ?_ _ ?_); (focus (first | exact Nat.le_refl _ | exact Nat.le_add_right _ _ | exact hBA.size | exact Nat.le_trans hBA.size (Nat.le_add_right _ _) | exact hC.size | exact Nat.le_trans hC.size (Nat.le_add_right _ _) | (simp; omega))))))) bA1; replace OA := Lib.hid (OA.low (Nat.zero_le _)); (first | (refine keepThat (Z3.below (b := w13.heap.size) bA1 ?_) ?_; (focus ((repeat (first | with_reducible exact zz.out | with_reducible refine Z3.drew ?_ | ((with_reducible refine Z3.lit ?_); first | (with_reducible rfl) | (simp [go_sem]; done)) | with_reducible refine Z3.alloc ?_ _)); done)); intro zz; replace zz := Lib.hid zz; obtain ⟨⟨z0, y0⟩, ⟨z1, y1⟩, ⟨z2, y2⟩⟩ := zz.out) | (refine keepThat (Z3.below (b := w13.heap.size + 1) bA1 ?_) ?_; (focus ((repeat (first | with_reducible exact zz.out | with_reducible refine Z3.drew ?_ | ((with_reducible refine Z3.lit ?_); first | (with_reducible rfl) | (simp [go_sem]; done)) | with_reducible refine Z3.alloc ?_ _)); done)); intro zz; replace zz := Lib.hid zz; obtain ⟨⟨z0, y0⟩, ⟨z1, y1⟩, ⟨z2, y2⟩⟩ := zz.out) | (refine keepThat (Z3.below (b := w13.heap.size + 2) bA1 ?_) ?_; (focus ((repeat (first | with_reducible exact zz.out | with_reducible refine Z3.drew ?_ | ((with_reducible refine Z3.lit ?_); first | (with_reducible rfl) | (simp [go_sem]; done)) | with_reducible refine Z3.alloc ?_ _)); done)); intro zz; replace zz := Lib.hid zz; obtain ⟨⟨z0, y0⟩, ⟨z1, y1⟩, ⟨z2, y2⟩⟩ := zz.out) | skip); (first | (refine keepThat (Own.grown (f := cD) (T := 40) (base := 0) (v := .slice (some ⟨w13.heap.size, 0, none⟩) 2 2) (l := [Z, X]) ?_ bA1) ?_; (focus ((repeat (first | with_reducible exact OS.out | with_reducible exact OA.out | with_reducible exact OT.out | with_reducible exact OBx.out | ((with_reducible refine lit_own ?_ ?_ ?_ ?_ ?_); (focus (first | (with_reducible rfl) | (simp [go_sem]; done))); (focus rfl); (focus rfl); (focus rfl); exact Nat.le_of_ble_eq_true rfl) | with_reducible refine Own.alloc ?_ _ | with_reducible refine Own.drew ?_)); done)); intro OBx; replace OBx := Lib.hid OBx) | (refine keepThat (Own.grown (f := cD) (T := 40) (base := 0) (v := .slice (some ⟨w13.heap.size + 1, 0, none⟩) 2 2) (l := [Z, X]) ?_ bA1) ?_; (focus ((repeat (first | with_reducible exact OS.out | with_reducible exact OA.out | with_reducible exact OT.out | with_reducible exact OBx.out | ((with_reducible refine lit_own ?_ ?_ ?_ ?_ ?_); (focus (first | (with_reducible rfl) | (simp [go_sem]; done))); (focus rfl); (focus rfl); (focus rfl); exact Nat.le_of_ble_eq_true rfl) | with_reducible refine Own.alloc ?_ _ | with_reducible refine Own.drew ?_)); done)); intro OBx; replace OBx := Lib.hid OBx) | (refine keepThat (Own.grown (f := cD) (T := 40) (base := 0) (v := .slice (some ⟨w13.heap.size + 2, 0, none⟩) 2 2) (l := [Z, X]) ?_ bA1) ?_; (focus ((repeat (first | with_reducible exact OS.out | with_reducible exact OA.out | with_reducible exact OT.out | with_reducible exact OBx.out | ((with_reducible refine lit_own ?_ ?_ ?_ ?_ ?_); (focus (first | (with_reducible rfl) | (simp [go_sem]; done))); (focus rfl); (focus rfl); (focus rfl); exact Nat.le_of_ble_eq_true rfl) | with_reducible refine Own.alloc ?_ _ | with_reducible refine Own.drew ?_)); done)); intro OBx; replace OBx := Lib.hid OBx) | skip)))
    all_goals
      go_wp2_with fail
      go_meet
      case rel =>
        refine rel_out H OS rfl ?_
        (repeat (first | with_reducible exact hC | with_reducible exact hBA | with_reducible exact Below.refl _ _ | with_reducible refine bA ?_ _ | with_reducible refine Below.drew ?_ | ((with_reducible refine bS2 ?_ _ ?_); (focus (first | exact Nat.le_refl _ | exact Nat.le_add_right _ _ | exact hBA.size | exact Nat.le_trans hBA.size (Nat.le_add_right _ _) | exact hC.size | exact Nat.le_trans hC.size (Nat.le_add_right _ _) | (simp; omega))))))
  case rest =>

  clear KS' n1 H OS
  obtain ⟨rfl, H, OS⟩ := hcut
  have F := H.f; dsimp only [Fac] at F
  have n1 := H.lt; dsimp only [Lts] at n1
  go_wp2_with fail
  refine callGo (p := fun x => Hold w x [(w2.heap.size, 0, .float .f64 X.1), (w2.heap.size, 1, .float .f64 X.2.1), (w2.heap.size, 2, .int .i64 X.2.2), (w5.heap.size, 0, .float .f64 Z.1), (w5.heap.size, 1, .float .f64 Z.2.1), (w5.heap.size, 2, .int .i64 Z.2.2), (w7.heap.size, 0, .float .f64 (ofKey k0)), (w7.heap.size, 1, .float .f64 (ofKey k1)), (w7.heap.size, 2, .int .i64 kz), (w9.heap.size, 0, .float .f64 (ofKey k0)), (w9.heap.size, 1, .float .f64 (ofKey k1)), (w9.heap.size, 2, .int .i64 kz)] ∧ Hid (Own cS 44 0 x (.slice (some ⟨w5.heap.size + 1, 0, none⟩) 3 3) (three (6 + j))) ∧ Hid (Own cD 40 0 x (.slice (some ⟨wc.heap.size, 0, none⟩) 3 3) [Z, X, zeroD])) ⟨H.al _, Lib.hid (OS.out.alloc _), Lib.hid (lit_own (by first | (with_reducible rfl) | (simp [go_sem]; done)) rfl rfl rfl (Nat.le_of_ble_eq_true rfl))⟩ ?_
  clear H F n1 OS; rintro w14 ⟨H, OS, OB⟩
  refine (E5.out _ _ _ OS.out OB.out).mono ?_; rintro e w15 ⟨rfl, b15⟩
  replace H := H.below b15; clear OS OB b15
  have n1 := H.lt; dsimp only [Lts] at n1
  go_wp2_with fail
  refine callGo (p := fun x => Hold w x [(w2.heap.size, 0, .float .f64 X.1), (w2.heap.size, 1, .float .f64 X.2.1), (w2.heap.size, 2, .int .i64 X.2.2), (w5.heap.size, 0, .float .f64 Z.1), (w5.heap.size, 1, .float .f64 Z.2.1), (w5.heap.size, 2, .int .i64 Z.2.2), (w7.heap.size, 0, .float .f64 (ofKey k0)), (w7.heap.size, 1, .float .f64 (ofKey k1)), (w7.heap.size, 2, .int .i64 kz), (w9.heap.size, 0, .float .f64 (ofKey k0)), (w9.heap.size, 1, .float .f64 (ofKey k1)), (w9.heap.size, 2, .int .i64 kz), (w15.heap.size, 0, .float .f64 (ofKey PI)), (w15.heap.size, 1, .float .f64 (ofKey (-PI))), (w15.heap.size, 2, .int .i64 0)]) (H.new3 _ _ _ _) ?_
  clear H n1; intro w16 H
  refine (AV.out _).mono ?_; rintro e w17 ⟨rfl, b17⟩
  replace H := H.below b17; clear b17
  have F := H.f; dsimp only [Fac] at F
  go_wp2_with fail
  go_ret
  exact ⟨rfl, H.B⟩
end Go.Proofs.Yteephgpefhodnaa
