/- The document's Apply. -/
import Derived.Test.YteephgpefhodnaaGreatG5
namespace Go.Proofs.YteephgpefhodnaaGreat
open Go.RowKit Go.Sort Go.Fl
set_option linter.unusedSimpArgs false
set_option linter.unusedVariables false
set_option maxRecDepth 4000 in
set_option maxHeartbeats 1000000 in
theorem ra_e1 (o:Int) (a b c d:Nat) (A B C D:Int) (rA:Rg A) (rB:Rg B) (rC:Rg C) (rD:Rg D) (ta : ∀ w,Calls Tryz.prog 53 #[.agg #[.float .f64 (a),.float .f64 (b)]] w fun e w'=>e = .returned (.agg #[.float .f64 (ofKey (A)),.float .f64 (ofKey (B))])∧Below w.heap.size w w') (tc : ∀ w,Calls Tryz.prog 53 #[.agg #[.float .f64 (c),.float .f64 (d)]] w fun e w'=>e = .returned (.agg #[.float .f64 (ofKey (C)),.float .f64 (ofKey (D))])∧Below w.heap.size w w') (h1:B<A) (h2:D<C) (w:World) :
  Calls Tryz.prog 23 #[.int .i64 o,.agg #[.float .f64 (a),.float .f64 (b)],.agg #[.float .f64 (c),.float .f64 (d)]] w fun e w'=>e = .returned (.agg #[.float .f64 (ofKey (PI)),.float .f64 (ofKey (-PI))])∧Below w.heap.size w w':=by
 have hP:=PI_pos
 have nA:=fun w=>refno_any A B rA rB w
 rw [decide_eq_true (by omega:B<A)] at nA
 have NA:=Lib.hid nA
 clear nA
 have nC:=fun w=>refno_any C D rC rD w
 rw [decide_eq_true (by omega:D<C)] at nC
 have NC:=Lib.hid nC
 clear nC
 clear h1 h2
 have TA:=Lib.hid ta
 have TC:=Lib.hid tc
 clear ta tc
 go_enter Tryz.func23,Tryz.ntmps23
 go_wp2_with fail
 refine (TA.out _).mono ?_;rintro e w1 ⟨rfl,hb⟩
 have H:=Hold.i222.below hb;clear hb;have F:=H.f;dsimp only [Fac] at F
 go_wp2_with fail
 refine ((H.set 0 _).set 1 _).goc ?_;clear H F;intro w2 H;dsimp only [upd] at H;have F:=H.f;dsimp only [Fac] at F
 refine (TC.out _).mono ?_;rintro e w3 ⟨rfl,hb⟩
 replace H:=H.below hb;clear hb;replace F:=H.f;dsimp only [Fac] at F
 go_wp2_with fail
 refine ((H.set 2 _).set 3 _).goc ?_;clear H F;intro w4 H;dsimp only [upd] at H;have F:=H.f;dsimp only [Fac] at F
 refine (NA.out _).mono ?_;rintro e w5 ⟨rfl,hb⟩
 replace H:=H.below hb;clear hb;replace F:=H.f;dsimp only [Fac] at F
 go_wp2_with fail
 refine (NC.out _).mono ?_;rintro e w6 ⟨rfl,hb⟩
 replace H:=H.below hb;clear hb;replace F:=H.f;dsimp only [Fac] at F
 go_wp2_with fail
 refine (refempty_any _).mono ?_;rintro e w7 ⟨rfl,hb⟩
 replace H:=H.below hb;clear hb;replace F:=H.f;dsimp only [Fac] at F
 go_wp2_with fail
 refine ((H.set 4 _).set 5 _).gob ?_;clear H F;intro wz H;dsimp only [upd] at H;have F:=H.f;dsimp only [Fac] at F
 refine bodyPost_ret (by simp [results,Tryz.results23,go_sem,F]) rfl ⟨rfl,?_⟩;exact H.B
set_option maxRecDepth 4000 in
set_option maxHeartbeats 1000000 in
theorem ra_e0 (o:Int) (a b c d:Nat) (A B C D:Int) (rA:Rg A) (rB:Rg B) (rC:Rg C) (rD:Rg D) (ta : ∀ w,Calls Tryz.prog 53 #[.agg #[.float .f64 (a),.float .f64 (b)]] w fun e w'=>e = .returned (.agg #[.float .f64 (ofKey (A)),.float .f64 (ofKey (B))])∧Below w.heap.size w w') (tc : ∀ w,Calls Tryz.prog 53 #[.agg #[.float .f64 (c),.float .f64 (d)]] w fun e w'=>e = .returned (.agg #[.float .f64 (ofKey (C)),.float .f64 (ofKey (D))])∧Below w.heap.size w w') (h1:B<A) (h2 : ¬D<C) (w:World) :
  Calls Tryz.prog 23 #[.int .i64 o,.agg #[.float .f64 (a),.float .f64 (b)],.agg #[.float .f64 (c),.float .f64 (d)]] w fun e w'=>e = .returned (.agg #[.float .f64 (ofKey (PI)),.float .f64 (ofKey (-PI))])∧Below w.heap.size w w':=by
 have hP:=PI_pos
 have nA:=fun w=>refno_any A B rA rB w
 rw [decide_eq_true (by omega:B<A)] at nA
 have NA:=Lib.hid nA
 clear nA
 have nC:=fun w=>refno_any C D rC rD w
 rw [decide_eq_false (by omega : ¬D<C)] at nC
 have NC:=Lib.hid nC
 clear nC
 clear h1 h2
 have TA:=Lib.hid ta
 have TC:=Lib.hid tc
 clear ta tc
 go_enter Tryz.func23,Tryz.ntmps23
 go_wp2_with fail
 refine (TA.out _).mono ?_;rintro e w1 ⟨rfl,hb⟩
 have H:=Hold.i222.below hb;clear hb;have F:=H.f;dsimp only [Fac] at F
 go_wp2_with fail
 refine ((H.set 0 _).set 1 _).goc ?_;clear H F;intro w2 H;dsimp only [upd] at H;have F:=H.f;dsimp only [Fac] at F
 refine (TC.out _).mono ?_;rintro e w3 ⟨rfl,hb⟩
 replace H:=H.below hb;clear hb;replace F:=H.f;dsimp only [Fac] at F
 go_wp2_with fail
 refine ((H.set 2 _).set 3 _).goc ?_;clear H F;intro w4 H;dsimp only [upd] at H;have F:=H.f;dsimp only [Fac] at F
 refine (NA.out _).mono ?_;rintro e w5 ⟨rfl,hb⟩
 replace H:=H.below hb;clear hb;replace F:=H.f;dsimp only [Fac] at F
 go_wp2_with fail
 refine (NC.out _).mono ?_;rintro e w6 ⟨rfl,hb⟩
 replace H:=H.below hb;clear hb;replace F:=H.f;dsimp only [Fac] at F
 go_wp2_with fail
 refine (refempty_any _).mono ?_;rintro e w7 ⟨rfl,hb⟩
 replace H:=H.below hb;clear hb;replace F:=H.f;dsimp only [Fac] at F
 go_wp2_with fail
 refine ((H.set 4 _).set 5 _).gob ?_;clear H F;intro wz H;dsimp only [upd] at H;have F:=H.f;dsimp only [Fac] at F
 refine bodyPost_ret (by simp [results,Tryz.results23,go_sem,F]) rfl ⟨rfl,?_⟩;exact H.B
set_option maxRecDepth 4000 in
set_option maxHeartbeats 1000000 in
theorem ra_e2 (o:Int) (a b c d:Nat) (A B C D:Int) (rA:Rg A) (rB:Rg B) (rC:Rg C) (rD:Rg D) (ta : ∀ w,Calls Tryz.prog 53 #[.agg #[.float .f64 (a),.float .f64 (b)]] w fun e w'=>e = .returned (.agg #[.float .f64 (ofKey (A)),.float .f64 (ofKey (B))])∧Below w.heap.size w w') (tc : ∀ w,Calls Tryz.prog 53 #[.agg #[.float .f64 (c),.float .f64 (d)]] w fun e w'=>e = .returned (.agg #[.float .f64 (ofKey (C)),.float .f64 (ofKey (D))])∧Below w.heap.size w w') (h1 : ¬B<A) (h2:D<C) (h6:6≤o) (w:World) :
  Calls Tryz.prog 23 #[.int .i64 o,.agg #[.float .f64 (a),.float .f64 (b)],.agg #[.float .f64 (c),.float .f64 (d)]] w fun e w'=>e = .returned (.agg #[.float .f64 (ofKey (PI)),.float .f64 (ofKey (-PI))])∧Below w.heap.size w w':=by
 have nA:=fun w=>refno_any A B rA rB w
 rw [decide_eq_false (by omega : ¬B<A)] at nA
 have NA:=Lib.hid nA
 clear nA
 have nC:=fun w=>refno_any C D rC rD w
 rw [decide_eq_true (by omega:D<C)] at nC
 have NC:=Lib.hid nC
 clear nC
 have d6:decide (6≤o)=true:=decide_eq_true h6
 clear h1 h2 h6
 have TA:=Lib.hid ta
 have TC:=Lib.hid tc
 clear ta tc
 go_enter Tryz.func23,Tryz.ntmps23
 go_wp2_with fail
 refine (TA.out _).mono ?_;rintro e w1 ⟨rfl,hb⟩
 have H:=Hold.i222.below hb;clear hb;have F:=H.f;dsimp only [Fac] at F
 go_wp2_with fail
 refine ((H.set 0 _).set 1 _).goc ?_;clear H F;intro w2 H;dsimp only [upd] at H;have F:=H.f;dsimp only [Fac] at F
 refine (TC.out _).mono ?_;rintro e w3 ⟨rfl,hb⟩
 replace H:=H.below hb;clear hb;replace F:=H.f;dsimp only [Fac] at F
 go_wp2_with fail
 refine ((H.set 2 _).set 3 _).goc ?_;clear H F;intro w4 H;dsimp only [upd] at H;have F:=H.f;dsimp only [Fac] at F
 refine (NA.out _).mono ?_;rintro e w5 ⟨rfl,hb⟩
 replace H:=H.below hb;clear hb;replace F:=H.f;dsimp only [Fac] at F
 go_wp2_with fail
 refine (NC.out _).mono ?_;rintro e w6 ⟨rfl,hb⟩
 replace H:=H.below hb;clear hb;replace F:=H.f;dsimp only [Fac] at F
 go_wp2_with fail
 refine (refempty_any _).mono ?_;rintro e w7 ⟨rfl,hb⟩
 replace H:=H.below hb;clear hb;replace F:=H.f;dsimp only [Fac] at F
 go_wp2_with fail
 refine ((H.set 4 _).set 5 _).gob ?_;clear H F;intro wz H;dsimp only [upd] at H;have F:=H.f;dsimp only [Fac] at F
 refine bodyPost_ret (by simp [results,Tryz.results23,go_sem,F]) rfl ⟨rfl,?_⟩;exact H.B
set_option maxRecDepth 4000 in
set_option maxHeartbeats 1000000 in
theorem ra_two (o:Int) (a b c d:Nat) (A B C D:Int) (rA:Rg A) (rB:Rg B) (rC:Rg C) (rD:Rg D) (ta : ∀ w,Calls Tryz.prog 53 #[.agg #[.float .f64 (a),.float .f64 (b)]] w fun e w'=>e = .returned (.agg #[.float .f64 (ofKey (A)),.float .f64 (ofKey (B))])∧Below w.heap.size w w') (tc : ∀ w,Calls Tryz.prog 53 #[.agg #[.float .f64 (c),.float .f64 (d)]] w fun e w'=>e = .returned (.agg #[.float .f64 (ofKey (C)),.float .f64 (ofKey (D))])∧Below w.heap.size w w') (h1 : ¬B<A) (h2 : ¬D<C) (h6:6≤o) (x y X Y:Int) (rx:Rg x) (ry:Rg y) (hg : ∀ w,Calls Tryz.prog 56 #[.int .i64 o,.agg #[.float .f64 (ofKey (A)),.float .f64 (ofKey (B))],.agg #[.float .f64 (ofKey (C)),.float .f64 (ofKey (D))]] w fun e w'=>e = .returned (.agg #[.float .f64 (ofKey (x)),.float .f64 (ofKey (y))])∧Below w.heap.size w w') (hk : ∀ w,Calls Tryz.prog 53 #[.agg #[.float .f64 (ofKey (x)),.float .f64 (ofKey (y))]] w fun e w'=>e = .returned (.agg #[.float .f64 (ofKey (X)),.float .f64 (ofKey (Y))])∧Below w.heap.size w w') (w:World) :
  Calls Tryz.prog 23 #[.int .i64 o,.agg #[.float .f64 (a),.float .f64 (b)],.agg #[.float .f64 (c),.float .f64 (d)]] w fun e w'=>e = .returned (.agg #[.float .f64 (ofKey (X)),.float .f64 (ofKey (Y))])∧Below w.heap.size w w':=by
 have nA:=fun w=>refno_any A B rA rB w
 rw [decide_eq_false (by omega : ¬B<A)] at nA
 have NA:=Lib.hid nA
 clear nA
 have nC:=fun w=>refno_any C D rC rD w
 rw [decide_eq_false (by omega : ¬D<C)] at nC
 have NC:=Lib.hid nC
 clear nC
 have d6:decide (6≤o)=true:=decide_eq_true h6
 clear h1 h2
 have HG:=Lib.hid hg
 have TK:=Lib.hid hk
 clear hg hk
 have TA:=Lib.hid ta
 have TC:=Lib.hid tc
 clear ta tc
 go_enter Tryz.func23,Tryz.ntmps23
 go_wp2_with fail
 refine (TA.out _).mono ?_;rintro e w1 ⟨rfl,hb⟩
 have H:=Hold.i222.below hb;clear hb;have F:=H.f;dsimp only [Fac] at F
 go_wp2_with fail
 refine ((H.set 0 _).set 1 _).goc ?_;clear H F;intro w2 H;dsimp only [upd] at H;have F:=H.f;dsimp only [Fac] at F
 refine (TC.out _).mono ?_;rintro e w3 ⟨rfl,hb⟩
 replace H:=H.below hb;clear hb;replace F:=H.f;dsimp only [Fac] at F
 go_wp2_with fail
 refine ((H.set 2 _).set 3 _).goc ?_;clear H F;intro w4 H;dsimp only [upd] at H;have F:=H.f;dsimp only [Fac] at F
 refine (NA.out _).mono ?_;rintro e w5 ⟨rfl,hb⟩
 replace H:=H.below hb;clear hb;replace F:=H.f;dsimp only [Fac] at F
 go_wp2_with fail
 refine (NC.out _).mono ?_;rintro e w6 ⟨rfl,hb⟩
 replace H:=H.below hb;clear hb;replace F:=H.f;dsimp only [Fac] at F
 go_wp2_with fail
 refine (HG.out _).mono ?_;rintro e w7 ⟨rfl,hb⟩
 replace H:=H.below hb;clear hb;replace F:=H.f;dsimp only [Fac] at F
 go_wp2_with fail
 refine (TK.out _).mono ?_;rintro e w8 ⟨rfl,hb⟩
 have n1:=H.lt;dsimp only [Lts] at n1
 replace H:=(H.new2 _ _ _).below hb;dsimp only [add] at H;clear hb;replace F:=H.f;dsimp only [Fac] at F
 go_wp2_with fail
 refine ((H.set 4 _).set 5 _).gob ?_;clear H F;intro wz H;dsimp only [upd] at H;have F:=H.f;dsimp only [Fac] at F
 refine bodyPost_ret (by simp [results,Tryz.results23,go_sem,F]) rfl ⟨rfl,?_⟩;exact H.B
set_option maxRecDepth 4000 in
set_option maxHeartbeats 1000000 in
theorem ra_one1 (o:Int) (a b c d:Nat) (A B C D:Int) (rA:Rg A) (rB:Rg B) (rC:Rg C) (rD:Rg D) (ta : ∀ w,Calls Tryz.prog 53 #[.agg #[.float .f64 (a),.float .f64 (b)]] w fun e w'=>e = .returned (.agg #[.float .f64 (ofKey (A)),.float .f64 (ofKey (B))])∧Below w.heap.size w w') (tc : ∀ w,Calls Tryz.prog 53 #[.agg #[.float .f64 (c),.float .f64 (d)]] w fun e w'=>e = .returned (.agg #[.float .f64 (ofKey (C)),.float .f64 (ofKey (D))])∧Below w.heap.size w w') (h1 : ¬B<A) (h2:D<C) (h6:o<6) (x y X Y:Int) (rx:Rg x) (ry:Rg y) (hg : ∀ w,Calls Tryz.prog 57 #[.int .i64 o,.agg #[.float .f64 (ofKey (A)),.float .f64 (ofKey (B))]] w fun e w'=>e = .returned (.agg #[.float .f64 (ofKey (x)),.float .f64 (ofKey (y))])∧Below w.heap.size w w') (hk : ∀ w,Calls Tryz.prog 53 #[.agg #[.float .f64 (ofKey (x)),.float .f64 (ofKey (y))]] w fun e w'=>e = .returned (.agg #[.float .f64 (ofKey (X)),.float .f64 (ofKey (Y))])∧Below w.heap.size w w') (w:World) :
  Calls Tryz.prog 23 #[.int .i64 o,.agg #[.float .f64 (a),.float .f64 (b)],.agg #[.float .f64 (c),.float .f64 (d)]] w fun e w'=>e = .returned (.agg #[.float .f64 (ofKey (X)),.float .f64 (ofKey (Y))])∧Below w.heap.size w w':=by
 have nA:=fun w=>refno_any A B rA rB w
 rw [decide_eq_false (by omega : ¬B<A)] at nA
 have NA:=Lib.hid nA
 clear nA
 have nC:=fun w=>refno_any C D rC rD w
 rw [decide_eq_true (by omega:D<C)] at nC
 have NC:=Lib.hid nC
 clear nC
 have d6:decide (6≤o)=false:=decide_eq_false (by omega)
 clear h1 h2
 have HG:=Lib.hid hg
 have TK:=Lib.hid hk
 clear hg hk
 have TA:=Lib.hid ta
 have TC:=Lib.hid tc
 clear ta tc
 go_enter Tryz.func23,Tryz.ntmps23
 go_wp2_with fail
 refine (TA.out _).mono ?_;rintro e w1 ⟨rfl,hb⟩
 have H:=Hold.i222.below hb;clear hb;have F:=H.f;dsimp only [Fac] at F
 go_wp2_with fail
 refine ((H.set 0 _).set 1 _).goc ?_;clear H F;intro w2 H;dsimp only [upd] at H;have F:=H.f;dsimp only [Fac] at F
 refine (TC.out _).mono ?_;rintro e w3 ⟨rfl,hb⟩
 replace H:=H.below hb;clear hb;replace F:=H.f;dsimp only [Fac] at F
 go_wp2_with fail
 refine ((H.set 2 _).set 3 _).goc ?_;clear H F;intro w4 H;dsimp only [upd] at H;have F:=H.f;dsimp only [Fac] at F
 refine (NA.out _).mono ?_;rintro e w5 ⟨rfl,hb⟩
 replace H:=H.below hb;clear hb;replace F:=H.f;dsimp only [Fac] at F
 go_wp2_with fail
 refine (NC.out _).mono ?_;rintro e w6 ⟨rfl,hb⟩
 replace H:=H.below hb;clear hb;replace F:=H.f;dsimp only [Fac] at F
 go_wp2_with fail
 refine (HG.out _).mono ?_;rintro e w7 ⟨rfl,hb⟩
 replace H:=H.below hb;clear hb;replace F:=H.f;dsimp only [Fac] at F
 go_wp2_with fail
 refine (TK.out _).mono ?_;rintro e w8 ⟨rfl,hb⟩
 have n1:=H.lt;dsimp only [Lts] at n1
 replace H:=(H.new2 _ _ _).below hb;dsimp only [add] at H;clear hb;replace F:=H.f;dsimp only [Fac] at F
 go_wp2_with fail
 refine ((H.set 4 _).set 5 _).gob ?_;clear H F;intro wz H;dsimp only [upd] at H;have F:=H.f;dsimp only [Fac] at F
 refine bodyPost_ret (by simp [results,Tryz.results23,go_sem,F]) rfl ⟨rfl,?_⟩;exact H.B
set_option maxRecDepth 4000 in
set_option maxHeartbeats 1000000 in
theorem ra_one0 (o:Int) (a b c d:Nat) (A B C D:Int) (rA:Rg A) (rB:Rg B) (rC:Rg C) (rD:Rg D) (ta : ∀ w,Calls Tryz.prog 53 #[.agg #[.float .f64 (a),.float .f64 (b)]] w fun e w'=>e = .returned (.agg #[.float .f64 (ofKey (A)),.float .f64 (ofKey (B))])∧Below w.heap.size w w') (tc : ∀ w,Calls Tryz.prog 53 #[.agg #[.float .f64 (c),.float .f64 (d)]] w fun e w'=>e = .returned (.agg #[.float .f64 (ofKey (C)),.float .f64 (ofKey (D))])∧Below w.heap.size w w') (h1 : ¬B<A) (h2 : ¬D<C) (h6:o<6) (x y X Y:Int) (rx:Rg x) (ry:Rg y) (hg : ∀ w,Calls Tryz.prog 57 #[.int .i64 o,.agg #[.float .f64 (ofKey (A)),.float .f64 (ofKey (B))]] w fun e w'=>e = .returned (.agg #[.float .f64 (ofKey (x)),.float .f64 (ofKey (y))])∧Below w.heap.size w w') (hk : ∀ w,Calls Tryz.prog 53 #[.agg #[.float .f64 (ofKey (x)),.float .f64 (ofKey (y))]] w fun e w'=>e = .returned (.agg #[.float .f64 (ofKey (X)),.float .f64 (ofKey (Y))])∧Below w.heap.size w w') (w:World) :
  Calls Tryz.prog 23 #[.int .i64 o,.agg #[.float .f64 (a),.float .f64 (b)],.agg #[.float .f64 (c),.float .f64 (d)]] w fun e w'=>e = .returned (.agg #[.float .f64 (ofKey (X)),.float .f64 (ofKey (Y))])∧Below w.heap.size w w':=by
 have nA:=fun w=>refno_any A B rA rB w
 rw [decide_eq_false (by omega : ¬B<A)] at nA
 have NA:=Lib.hid nA
 clear nA
 have nC:=fun w=>refno_any C D rC rD w
 rw [decide_eq_false (by omega : ¬D<C)] at nC
 have NC:=Lib.hid nC
 clear nC
 have d6:decide (6≤o)=false:=decide_eq_false (by omega)
 clear h1 h2
 have HG:=Lib.hid hg
 have TK:=Lib.hid hk
 clear hg hk
 have TA:=Lib.hid ta
 have TC:=Lib.hid tc
 clear ta tc
 go_enter Tryz.func23,Tryz.ntmps23
 go_wp2_with fail
 refine (TA.out _).mono ?_;rintro e w1 ⟨rfl,hb⟩
 have H:=Hold.i222.below hb;clear hb;have F:=H.f;dsimp only [Fac] at F
 go_wp2_with fail
 refine ((H.set 0 _).set 1 _).goc ?_;clear H F;intro w2 H;dsimp only [upd] at H;have F:=H.f;dsimp only [Fac] at F
 refine (TC.out _).mono ?_;rintro e w3 ⟨rfl,hb⟩
 replace H:=H.below hb;clear hb;replace F:=H.f;dsimp only [Fac] at F
 go_wp2_with fail
 refine ((H.set 2 _).set 3 _).goc ?_;clear H F;intro w4 H;dsimp only [upd] at H;have F:=H.f;dsimp only [Fac] at F
 refine (NA.out _).mono ?_;rintro e w5 ⟨rfl,hb⟩
 replace H:=H.below hb;clear hb;replace F:=H.f;dsimp only [Fac] at F
 go_wp2_with fail
 refine (NC.out _).mono ?_;rintro e w6 ⟨rfl,hb⟩
 replace H:=H.below hb;clear hb;replace F:=H.f;dsimp only [Fac] at F
 go_wp2_with fail
 refine (HG.out _).mono ?_;rintro e w7 ⟨rfl,hb⟩
 replace H:=H.below hb;clear hb;replace F:=H.f;dsimp only [Fac] at F
 go_wp2_with fail
 refine (TK.out _).mono ?_;rintro e w8 ⟨rfl,hb⟩
 have n1:=H.lt;dsimp only [Lts] at n1
 replace H:=(H.new2 _ _ _).below hb;dsimp only [add] at H;clear hb;replace F:=H.f;dsimp only [Fac] at F
 go_wp2_with fail
 refine ((H.set 4 _).set 5 _).gob ?_;clear H F;intro wz H;dsimp only [upd] at H;have F:=H.f;dsimp only [Fac] at F
 refine bodyPost_ret (by simp [results,Tryz.results23,go_sem,F]) rfl ⟨rfl,?_⟩;exact H.B
theorem iv_lt {A B:Int} (h:Iv A B):B<A↔(A=PI∧B = -PI):=by
 have hP:=PI_pos
 obtain ⟨_,_,h3⟩:=h
 omega
theorem iv_ne {A B:Int} (h:Iv A B) (hn : ¬(A=PI∧B = -PI)):NE A B:=⟨h.1,h.2.1,h.2.2.resolve_left hn⟩
theorem iv_empty:Iv PI (-PI):=⟨Rg_PI,Rg_MI,.inl ⟨rfl,rfl⟩⟩
theorem taken_k {x y:Int} (h:Iv x y) : ∀ w,Calls Tryz.prog 53 #[.agg #[.float .f64 (ofKey (x)),.float .f64 (ofKey (y))]] w fun e w'=>e = .returned (.agg #[.float .f64 (ofKey (x)),.float .f64 (ofKey (y))])∧Below w.heap.size w w':=fun w=>by
 have t:=tk_canon h
 have:=reftaken_any (ofKey x) (ofKey y) (ofKey_lt h.1) (ofKey_lt h.2.1) w
 rw [t.1,t.2] at this
 exact this
theorem ap_one {o A B:Int} (ho:0≤o∧o≤5) (h:NE A B) (C D:Int):apLo o A B C D=opLo o A B C D∧apHi o A B C D=opHi o A B C D:=by
 have u:Uses o A B C D := .inl ⟨ho.1,ho.2,h.no⟩
 unfold apLo apHi
 rw [if_pos u,if_pos u]
 exact nrm_of (one_iv ho h C D)
theorem refapply_any (o:Int) (a b c d:Nat) (ha:Wd a) (hb:Wd b) (hc:Wd c) (hd:Wd d) (w:World) :
  Calls Tryz.prog 23 #[.int .i64 o,.agg #[.float .f64 (a),.float .f64 (b)],.agg #[.float .f64 (c),.float .f64 (d)]] w fun e w'=>e = .returned (.agg #[.float .f64 (ofKey (apLo o (tkLo a b) (tkHi a b) (tkLo c d) (tkHi c d))),.float .f64 (ofKey (apHi o (tkLo a b) (tkHi a b) (tkLo c d) (tkHi c d)))])∧Below w.heap.size w w':=by
 have ta:=fun w=>reftaken_any a b ha hb w
 have tc:=fun w=>reftaken_any c d hc hd w
 have vA:=tk_iv a b
 have vC:=tk_iv c d
 generalize tkLo a b=A at *
 generalize tkHi a b=B at *
 generalize tkLo c d=C at *
 generalize tkHi c d=D at *
 have eA:=iv_lt vA
 have eC:=iv_lt vC
 obtain ⟨rA,rB,_⟩:=id vA
 obtain ⟨rC,rD,_⟩:=id vC
 by_cases hA:B<A
 ·rw [apLo_no (by unfold Uses;omega),apHi_no (by unfold Uses;omega)]
  by_cases hC:D<C
  ·exact ra_e1 o a b c d A B C D rA rB rC rD ta tc hA hC w
  ·exact ra_e0 o a b c d A B C D rA rB rC rD ta tc hA hC w
 have nA:NE A B:=iv_ne vA (fun h=>hA (eA.2 h))
 by_cases h6:6≤o
 ·by_cases hC:D<C
  ·rw [apLo_no (by unfold Uses;omega),apHi_no (by unfold Uses;omega)]
   exact ra_e2 o a b c d A B C D rA rB rC rD ta tc hA hC h6 w
  have nC:NE C D:=iv_ne vC (fun h=>hC (eC.2 h))
  by_cases h11:o≤11
  ·have e:=ap_eq ⟨by omega,h11⟩ nA nC
   have v:=op_iv o nA nC
   rw [e.1,e.2]
   exact ra_two o a b c d A B C D rA rB rC rD ta tc hA hC h6 _ _ _ _ v.1 v.2.1 (fun w=>reftwo_any o A B C D nA nC ⟨h6,h11⟩ w) (taken_k v) w
  ·rw [apLo_no (by unfold Uses;omega),apHi_no (by unfold Uses;omega)]
   exact ra_two o a b c d A B C D rA rB rC rD ta tc hA hC h6 _ _ _ _ Rg_PI Rg_MI (fun w=>two_n A B C D rA rB rC rD o (by omega) w) (taken_k iv_empty) w
 ·have h6':o<6:=by omega
  by_cases h0:0≤o
  ·have ho:0≤o∧o≤5:=⟨h0,by omega⟩
   have e:=ap_one ho nA C D
   have v:=one_iv ho nA C D
   rw [e.1,e.2]
   by_cases hC:D<C
   ·exact ra_one1 o a b c d A B C D rA rB rC rD ta tc hA hC h6' _ _ _ _ v.1 v.2.1 (fun w=>refone_any o A B C D nA ho w) (taken_k v) w
   ·exact ra_one0 o a b c d A B C D rA rB rC rD ta tc hA hC h6' _ _ _ _ v.1 v.2.1 (fun w=>refone_any o A B C D nA ho w) (taken_k v) w
  ·rw [apLo_no (by unfold Uses;omega),apHi_no (by unfold Uses;omega)]
   by_cases hC:D<C
   ·exact ra_one1 o a b c d A B C D rA rB rC rD ta tc hA hC h6' _ _ _ _ Rg_PI Rg_MI (fun w=>one_n A B rA rB o (by omega) w) (taken_k iv_empty) w
   ·exact ra_one0 o a b c d A B C D rA rB rC rD ta tc hA hC h6' _ _ _ _ Rg_PI Rg_MI (fun w=>one_n A B rA rB o (by omega) w) (taken_k iv_empty) w
end Go.Proofs.YteephgpefhodnaaGreat
