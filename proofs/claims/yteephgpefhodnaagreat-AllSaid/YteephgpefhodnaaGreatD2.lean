/- Package deco: what an operation says of itself. -/
import Derived.Test.YteephgpefhodnaaGreatD1
namespace Go.Proofs.YteephgpefhodnaaGreat
open Go.RowKit Go.Sort Go.Fl
set_option linter.unusedSimpArgs false
set_option linter.unusedVariables false
def localK (o A B C D X Y:Int):Int :=
 if o=5∧A≤0∧0≤B then 1 else if o=9∧C≤0∧0≤D then 1 else if o=3∧A<0 then 1
 else if o=4 ∧ ¬(Bnd A B∧floorK A=floorK B) then 2 else if o=4∧floorK A=A then 3
 else if Bnd A B∧Bnd C D∧Bnd X Y then 4 else 3
theorem local_rec_F (A Bh C D X Y:Int) (rA:Rg A) (rB:Rg Bh) (rC:Rg C) (rD:Rg D) (rX:Rg X) (rY:Rg Y) (hHS : ∀ w,Calls Tryz.prog 127 #[.agg #[.float .f64 (ofKey (A)),.float .f64 (ofKey (Bh))]] w fun e w'=>e = .returned (.bool false)∧Below w.heap.size w w') (hBA : ∀ w,Calls Tryz.prog 92 #[.agg #[.float .f64 (ofKey (A)),.float .f64 (ofKey (Bh))]] w fun e w'=>e = .returned (.bool false)∧Below w.heap.size w w')  (w:World) :
  Calls Tryz.prog 94 #[.int .i64 (5),.agg #[.float .f64 (ofKey (A)),.float .f64 (ofKey (Bh))],.agg #[.float .f64 (ofKey (C)),.float .f64 (ofKey (D))],.agg #[.float .f64 (ofKey (X)),.float .f64 (ofKey (Y))]] w fun e w'=>e = .returned (.int .i64 3)∧Below w.heap.size w w':=by
 have BA:=Lib.hid hBA
 have HS:=Lib.hid hHS
 clear hBA hHS
 go_enter Tryz.func94,Tryz.ntmps94
 go_wp2_with fail
 refine (HS.out _).mono ?_;rintro e w2 ⟨rfl,hb⟩
 have H:=Hold.i222.below hb;clear hb;have F:=H.f;dsimp only [Fac] at F
 go_wp2_with fail
 refine (BA.out _).mono ?_;rintro e w3 ⟨rfl,hb⟩
 replace H:=H.below hb;clear hb;replace F:=H.f;dsimp only [Fac] at F
 go_wp2_with fail
 go_ret
 exact ⟨rfl,H.B⟩
theorem local_rec_TTF (A Bh C D X Y:Int) (rA:Rg A) (rB:Rg Bh) (rC:Rg C) (rD:Rg D) (rX:Rg X) (rY:Rg Y) (hHS : ∀ w,Calls Tryz.prog 127 #[.agg #[.float .f64 (ofKey (A)),.float .f64 (ofKey (Bh))]] w fun e w'=>e = .returned (.bool false)∧Below w.heap.size w w') (hBA : ∀ w,Calls Tryz.prog 92 #[.agg #[.float .f64 (ofKey (A)),.float .f64 (ofKey (Bh))]] w fun e w'=>e = .returned (.bool true)∧Below w.heap.size w w') (hBX : ∀ w,Calls Tryz.prog 92 #[.agg #[.float .f64 (ofKey (X)),.float .f64 (ofKey (Y))]] w fun e w'=>e = .returned (.bool false)∧Below w.heap.size w w') (w:World) :
  Calls Tryz.prog 94 #[.int .i64 (5),.agg #[.float .f64 (ofKey (A)),.float .f64 (ofKey (Bh))],.agg #[.float .f64 (ofKey (C)),.float .f64 (ofKey (D))],.agg #[.float .f64 (ofKey (X)),.float .f64 (ofKey (Y))]] w fun e w'=>e = .returned (.int .i64 3)∧Below w.heap.size w w':=by
 have BA:=Lib.hid hBA
 have BX:=Lib.hid hBX
 have HS:=Lib.hid hHS
 clear hBA hBX hHS
 go_enter Tryz.func94,Tryz.ntmps94
 go_wp2_with fail
 refine (HS.out _).mono ?_;rintro e w2 ⟨rfl,hb⟩
 have H:=Hold.i222.below hb;clear hb;have F:=H.f;dsimp only [Fac] at F
 go_wp2_with fail
 refine (BA.out _).mono ?_;rintro e w3 ⟨rfl,hb⟩
 replace H:=H.below hb;clear hb;replace F:=H.f;dsimp only [Fac] at F
 go_wp2_with fail
 refine (BA.out _).mono ?_;rintro e w4 ⟨rfl,hb⟩
 replace H:=H.below hb;clear hb;replace F:=H.f;dsimp only [Fac] at F
 go_wp2_with fail
 refine (BX.out _).mono ?_;rintro e w5 ⟨rfl,hb⟩
 replace H:=H.below hb;clear hb;replace F:=H.f;dsimp only [Fac] at F
 go_wp2_with fail
 go_ret
 exact ⟨rfl,H.B⟩
theorem local_rec_TTT (A Bh C D X Y:Int) (rA:Rg A) (rB:Rg Bh) (rC:Rg C) (rD:Rg D) (rX:Rg X) (rY:Rg Y) (hHS : ∀ w,Calls Tryz.prog 127 #[.agg #[.float .f64 (ofKey (A)),.float .f64 (ofKey (Bh))]] w fun e w'=>e = .returned (.bool false)∧Below w.heap.size w w') (hBA : ∀ w,Calls Tryz.prog 92 #[.agg #[.float .f64 (ofKey (A)),.float .f64 (ofKey (Bh))]] w fun e w'=>e = .returned (.bool true)∧Below w.heap.size w w') (hBX : ∀ w,Calls Tryz.prog 92 #[.agg #[.float .f64 (ofKey (X)),.float .f64 (ofKey (Y))]] w fun e w'=>e = .returned (.bool true)∧Below w.heap.size w w') (w:World) :
  Calls Tryz.prog 94 #[.int .i64 (5),.agg #[.float .f64 (ofKey (A)),.float .f64 (ofKey (Bh))],.agg #[.float .f64 (ofKey (C)),.float .f64 (ofKey (D))],.agg #[.float .f64 (ofKey (X)),.float .f64 (ofKey (Y))]] w fun e w'=>e = .returned (.int .i64 4)∧Below w.heap.size w w':=by
 have BA:=Lib.hid hBA
 have BX:=Lib.hid hBX
 have HS:=Lib.hid hHS
 clear hBA hBX hHS
 go_enter Tryz.func94,Tryz.ntmps94
 go_wp2_with fail
 refine (HS.out _).mono ?_;rintro e w2 ⟨rfl,hb⟩
 have H:=Hold.i222.below hb;clear hb;have F:=H.f;dsimp only [Fac] at F
 go_wp2_with fail
 refine (BA.out _).mono ?_;rintro e w3 ⟨rfl,hb⟩
 replace H:=H.below hb;clear hb;replace F:=H.f;dsimp only [Fac] at F
 go_wp2_with fail
 refine (BA.out _).mono ?_;rintro e w4 ⟨rfl,hb⟩
 replace H:=H.below hb;clear hb;replace F:=H.f;dsimp only [Fac] at F
 go_wp2_with fail
 refine (BX.out _).mono ?_;rintro e w5 ⟨rfl,hb⟩
 replace H:=H.below hb;clear hb;replace F:=H.f;dsimp only [Fac] at F
 go_wp2_with fail
 go_ret
 exact ⟨rfl,H.B⟩
theorem local_rec_has (A Bh C D X Y:Int) (rA:Rg A) (rB:Rg Bh) (rC:Rg C) (rD:Rg D) (rX:Rg X) (rY:Rg Y) (hHS : ∀ w,Calls Tryz.prog 127 #[.agg #[.float .f64 (ofKey (A)),.float .f64 (ofKey (Bh))]] w fun e w'=>e = .returned (.bool true)∧Below w.heap.size w w') (w:World) :
  Calls Tryz.prog 94 #[.int .i64 (5),.agg #[.float .f64 (ofKey (A)),.float .f64 (ofKey (Bh))],.agg #[.float .f64 (ofKey (C)),.float .f64 (ofKey (D))],.agg #[.float .f64 (ofKey (X)),.float .f64 (ofKey (Y))]] w fun e w'=>e = .returned (.int .i64 1)∧Below w.heap.size w w':=by
 have HS:=Lib.hid hHS
 clear hHS
 go_enter Tryz.func94,Tryz.ntmps94
 go_wp2_with fail
 refine (HS.out _).mono ?_;rintro e w2 ⟨rfl,hb⟩
 have H:=Hold.i222.below hb;clear hb;have F:=H.f;dsimp only [Fac] at F
 go_wp2_with fail
 go_ret
 exact ⟨rfl,H.B⟩
theorem local_div_F (A Bh C D X Y:Int) (rA:Rg A) (rB:Rg Bh) (rC:Rg C) (rD:Rg D) (rX:Rg X) (rY:Rg Y) (hHS : ∀ w,Calls Tryz.prog 127 #[.agg #[.float .f64 (ofKey (C)),.float .f64 (ofKey (D))]] w fun e w'=>e = .returned (.bool false)∧Below w.heap.size w w') (hBA : ∀ w,Calls Tryz.prog 92 #[.agg #[.float .f64 (ofKey (A)),.float .f64 (ofKey (Bh))]] w fun e w'=>e = .returned (.bool false)∧Below w.heap.size w w') (w:World) :
  Calls Tryz.prog 94 #[.int .i64 (9),.agg #[.float .f64 (ofKey (A)),.float .f64 (ofKey (Bh))],.agg #[.float .f64 (ofKey (C)),.float .f64 (ofKey (D))],.agg #[.float .f64 (ofKey (X)),.float .f64 (ofKey (Y))]] w fun e w'=>e = .returned (.int .i64 3)∧Below w.heap.size w w':=by
 have HS:=Lib.hid hHS
 have BA:=Lib.hid hBA
 clear hHS hBA
 go_enter Tryz.func94,Tryz.ntmps94
 go_wp2_with fail
 refine (HS.out _).mono ?_;rintro e w1 ⟨rfl,hb⟩
 have H:=Hold.i222.below hb;clear hb;have F:=H.f;dsimp only [Fac] at F
 go_wp2_with fail
 refine (BA.out _).mono ?_;rintro e w2 ⟨rfl,hb⟩
 replace H:=H.below hb;clear hb;replace F:=H.f;dsimp only [Fac] at F
 go_wp2_with fail
 go_ret
 exact ⟨rfl,H.B⟩
theorem local_div_TF (A Bh C D X Y:Int) (rA:Rg A) (rB:Rg Bh) (rC:Rg C) (rD:Rg D) (rX:Rg X) (rY:Rg Y) (hHS : ∀ w,Calls Tryz.prog 127 #[.agg #[.float .f64 (ofKey (C)),.float .f64 (ofKey (D))]] w fun e w'=>e = .returned (.bool false)∧Below w.heap.size w w') (hBA : ∀ w,Calls Tryz.prog 92 #[.agg #[.float .f64 (ofKey (A)),.float .f64 (ofKey (Bh))]] w fun e w'=>e = .returned (.bool true)∧Below w.heap.size w w') (hBC : ∀ w,Calls Tryz.prog 92 #[.agg #[.float .f64 (ofKey (C)),.float .f64 (ofKey (D))]] w fun e w'=>e = .returned (.bool false)∧Below w.heap.size w w') (w:World) :
  Calls Tryz.prog 94 #[.int .i64 (9),.agg #[.float .f64 (ofKey (A)),.float .f64 (ofKey (Bh))],.agg #[.float .f64 (ofKey (C)),.float .f64 (ofKey (D))],.agg #[.float .f64 (ofKey (X)),.float .f64 (ofKey (Y))]] w fun e w'=>e = .returned (.int .i64 3)∧Below w.heap.size w w':=by
 have HS:=Lib.hid hHS
 have BA:=Lib.hid hBA
 have BC:=Lib.hid hBC
 clear hHS hBA hBC
 go_enter Tryz.func94,Tryz.ntmps94
 go_wp2_with fail
 refine (HS.out _).mono ?_;rintro e w1 ⟨rfl,hb⟩
 have H:=Hold.i222.below hb;clear hb;have F:=H.f;dsimp only [Fac] at F
 go_wp2_with fail
 refine (BA.out _).mono ?_;rintro e w2 ⟨rfl,hb⟩
 replace H:=H.below hb;clear hb;replace F:=H.f;dsimp only [Fac] at F
 go_wp2_with fail
 refine (BC.out _).mono ?_;rintro e w3 ⟨rfl,hb⟩
 replace H:=H.below hb;clear hb;replace F:=H.f;dsimp only [Fac] at F
 go_wp2_with fail
 go_ret
 exact ⟨rfl,H.B⟩
theorem local_div_TTF (A Bh C D X Y:Int) (rA:Rg A) (rB:Rg Bh) (rC:Rg C) (rD:Rg D) (rX:Rg X) (rY:Rg Y) (hHS : ∀ w,Calls Tryz.prog 127 #[.agg #[.float .f64 (ofKey (C)),.float .f64 (ofKey (D))]] w fun e w'=>e = .returned (.bool false)∧Below w.heap.size w w') (hBA : ∀ w,Calls Tryz.prog 92 #[.agg #[.float .f64 (ofKey (A)),.float .f64 (ofKey (Bh))]] w fun e w'=>e = .returned (.bool true)∧Below w.heap.size w w') (hBC : ∀ w,Calls Tryz.prog 92 #[.agg #[.float .f64 (ofKey (C)),.float .f64 (ofKey (D))]] w fun e w'=>e = .returned (.bool true)∧Below w.heap.size w w') (hBX : ∀ w,Calls Tryz.prog 92 #[.agg #[.float .f64 (ofKey (X)),.float .f64 (ofKey (Y))]] w fun e w'=>e = .returned (.bool false)∧Below w.heap.size w w') (w:World) :
  Calls Tryz.prog 94 #[.int .i64 (9),.agg #[.float .f64 (ofKey (A)),.float .f64 (ofKey (Bh))],.agg #[.float .f64 (ofKey (C)),.float .f64 (ofKey (D))],.agg #[.float .f64 (ofKey (X)),.float .f64 (ofKey (Y))]] w fun e w'=>e = .returned (.int .i64 3)∧Below w.heap.size w w':=by
 have HS:=Lib.hid hHS
 have BA:=Lib.hid hBA
 have BC:=Lib.hid hBC
 have BX:=Lib.hid hBX
 clear hHS hBA hBC hBX
 go_enter Tryz.func94,Tryz.ntmps94
 go_wp2_with fail
 refine (HS.out _).mono ?_;rintro e w1 ⟨rfl,hb⟩
 have H:=Hold.i222.below hb;clear hb;have F:=H.f;dsimp only [Fac] at F
 go_wp2_with fail
 refine (BA.out _).mono ?_;rintro e w2 ⟨rfl,hb⟩
 replace H:=H.below hb;clear hb;replace F:=H.f;dsimp only [Fac] at F
 go_wp2_with fail
 refine (BC.out _).mono ?_;rintro e w3 ⟨rfl,hb⟩
 replace H:=H.below hb;clear hb;replace F:=H.f;dsimp only [Fac] at F
 go_wp2_with fail
 refine (BX.out _).mono ?_;rintro e w4 ⟨rfl,hb⟩
 replace H:=H.below hb;clear hb;replace F:=H.f;dsimp only [Fac] at F
 go_wp2_with fail
 go_ret
 exact ⟨rfl,H.B⟩
theorem local_div_TTT (A Bh C D X Y:Int) (rA:Rg A) (rB:Rg Bh) (rC:Rg C) (rD:Rg D) (rX:Rg X) (rY:Rg Y) (hHS : ∀ w,Calls Tryz.prog 127 #[.agg #[.float .f64 (ofKey (C)),.float .f64 (ofKey (D))]] w fun e w'=>e = .returned (.bool false)∧Below w.heap.size w w') (hBA : ∀ w,Calls Tryz.prog 92 #[.agg #[.float .f64 (ofKey (A)),.float .f64 (ofKey (Bh))]] w fun e w'=>e = .returned (.bool true)∧Below w.heap.size w w') (hBC : ∀ w,Calls Tryz.prog 92 #[.agg #[.float .f64 (ofKey (C)),.float .f64 (ofKey (D))]] w fun e w'=>e = .returned (.bool true)∧Below w.heap.size w w') (hBX : ∀ w,Calls Tryz.prog 92 #[.agg #[.float .f64 (ofKey (X)),.float .f64 (ofKey (Y))]] w fun e w'=>e = .returned (.bool true)∧Below w.heap.size w w') (w:World) :
  Calls Tryz.prog 94 #[.int .i64 (9),.agg #[.float .f64 (ofKey (A)),.float .f64 (ofKey (Bh))],.agg #[.float .f64 (ofKey (C)),.float .f64 (ofKey (D))],.agg #[.float .f64 (ofKey (X)),.float .f64 (ofKey (Y))]] w fun e w'=>e = .returned (.int .i64 4)∧Below w.heap.size w w':=by
 have HS:=Lib.hid hHS
 have BA:=Lib.hid hBA
 have BC:=Lib.hid hBC
 have BX:=Lib.hid hBX
 clear hHS hBA hBC hBX
 go_enter Tryz.func94,Tryz.ntmps94
 go_wp2_with fail
 refine (HS.out _).mono ?_;rintro e w1 ⟨rfl,hb⟩
 have H:=Hold.i222.below hb;clear hb;have F:=H.f;dsimp only [Fac] at F
 go_wp2_with fail
 refine (BA.out _).mono ?_;rintro e w2 ⟨rfl,hb⟩
 replace H:=H.below hb;clear hb;replace F:=H.f;dsimp only [Fac] at F
 go_wp2_with fail
 refine (BC.out _).mono ?_;rintro e w3 ⟨rfl,hb⟩
 replace H:=H.below hb;clear hb;replace F:=H.f;dsimp only [Fac] at F
 go_wp2_with fail
 refine (BX.out _).mono ?_;rintro e w4 ⟨rfl,hb⟩
 replace H:=H.below hb;clear hb;replace F:=H.f;dsimp only [Fac] at F
 go_wp2_with fail
 go_ret
 exact ⟨rfl,H.B⟩
theorem local_div_has (A Bh C D X Y:Int) (rA:Rg A) (rB:Rg Bh) (rC:Rg C) (rD:Rg D) (rX:Rg X) (rY:Rg Y) (hHS : ∀ w,Calls Tryz.prog 127 #[.agg #[.float .f64 (ofKey (C)),.float .f64 (ofKey (D))]] w fun e w'=>e = .returned (.bool true)∧Below w.heap.size w w') (w:World) :
  Calls Tryz.prog 94 #[.int .i64 (9),.agg #[.float .f64 (ofKey (A)),.float .f64 (ofKey (Bh))],.agg #[.float .f64 (ofKey (C)),.float .f64 (ofKey (D))],.agg #[.float .f64 (ofKey (X)),.float .f64 (ofKey (Y))]] w fun e w'=>e = .returned (.int .i64 1)∧Below w.heap.size w w':=by
 have HS:=Lib.hid hHS
 clear hHS
 go_enter Tryz.func94,Tryz.ntmps94
 go_wp2_with fail
 refine (HS.out _).mono ?_;rintro e w1 ⟨rfl,hb⟩
 have H:=Hold.i222.below hb;clear hb;have F:=H.f;dsimp only [Fac] at F
 go_wp2_with fail
 go_ret
 exact ⟨rfl,H.B⟩
theorem local_sqrt_F (A Bh C D X Y:Int) (rA:Rg A) (rB:Rg Bh) (rC:Rg C) (rD:Rg D) (rX:Rg X) (rY:Rg Y) (h0:0≤A) (hBA : ∀ w,Calls Tryz.prog 92 #[.agg #[.float .f64 (ofKey (A)),.float .f64 (ofKey (Bh))]] w fun e w'=>e = .returned (.bool false)∧Below w.heap.size w w') (w:World) :
  Calls Tryz.prog 94 #[.int .i64 (3),.agg #[.float .f64 (ofKey (A)),.float .f64 (ofKey (Bh))],.agg #[.float .f64 (ofKey (C)),.float .f64 (ofKey (D))],.agg #[.float .f64 (ofKey (X)),.float .f64 (ofKey (Y))]] w fun e w'=>e = .returned (.int .i64 3)∧Below w.heap.size w w':=by
 have BA:=Lib.hid hBA
 clear hBA
 go_enter Tryz.func94,Tryz.ntmps94
 go_wp2_with fail
 refine (BA.out _).mono ?_;rintro e w1 ⟨rfl,hb⟩
 have H:=Hold.i222.below hb;clear hb;have F:=H.f;dsimp only [Fac] at F
 go_wp2_with fail
 go_ret
 exact ⟨rfl,H.B⟩
theorem local_sqrt_TF (A Bh C D X Y:Int) (rA:Rg A) (rB:Rg Bh) (rC:Rg C) (rD:Rg D) (rX:Rg X) (rY:Rg Y) (h0:0≤A) (hBA : ∀ w,Calls Tryz.prog 92 #[.agg #[.float .f64 (ofKey (A)),.float .f64 (ofKey (Bh))]] w fun e w'=>e = .returned (.bool true)∧Below w.heap.size w w') (hBC : ∀ w,Calls Tryz.prog 92 #[.agg #[.float .f64 (ofKey (C)),.float .f64 (ofKey (D))]] w fun e w'=>e = .returned (.bool false)∧Below w.heap.size w w') (w:World) :
  Calls Tryz.prog 94 #[.int .i64 (3),.agg #[.float .f64 (ofKey (A)),.float .f64 (ofKey (Bh))],.agg #[.float .f64 (ofKey (C)),.float .f64 (ofKey (D))],.agg #[.float .f64 (ofKey (X)),.float .f64 (ofKey (Y))]] w fun e w'=>e = .returned (.int .i64 3)∧Below w.heap.size w w':=by
 have BA:=Lib.hid hBA
 have BC:=Lib.hid hBC
 clear hBA hBC
 go_enter Tryz.func94,Tryz.ntmps94
 go_wp2_with fail
 refine (BA.out _).mono ?_;rintro e w1 ⟨rfl,hb⟩
 have H:=Hold.i222.below hb;clear hb;have F:=H.f;dsimp only [Fac] at F
 go_wp2_with fail
 refine (BC.out _).mono ?_;rintro e w2 ⟨rfl,hb⟩
 replace H:=H.below hb;clear hb;replace F:=H.f;dsimp only [Fac] at F
 go_wp2_with fail
 go_ret
 exact ⟨rfl,H.B⟩
theorem local_sqrt_TTF (A Bh C D X Y:Int) (rA:Rg A) (rB:Rg Bh) (rC:Rg C) (rD:Rg D) (rX:Rg X) (rY:Rg Y) (h0:0≤A) (hBA : ∀ w,Calls Tryz.prog 92 #[.agg #[.float .f64 (ofKey (A)),.float .f64 (ofKey (Bh))]] w fun e w'=>e = .returned (.bool true)∧Below w.heap.size w w') (hBC : ∀ w,Calls Tryz.prog 92 #[.agg #[.float .f64 (ofKey (C)),.float .f64 (ofKey (D))]] w fun e w'=>e = .returned (.bool true)∧Below w.heap.size w w') (hBX : ∀ w,Calls Tryz.prog 92 #[.agg #[.float .f64 (ofKey (X)),.float .f64 (ofKey (Y))]] w fun e w'=>e = .returned (.bool false)∧Below w.heap.size w w') (w:World) :
  Calls Tryz.prog 94 #[.int .i64 (3),.agg #[.float .f64 (ofKey (A)),.float .f64 (ofKey (Bh))],.agg #[.float .f64 (ofKey (C)),.float .f64 (ofKey (D))],.agg #[.float .f64 (ofKey (X)),.float .f64 (ofKey (Y))]] w fun e w'=>e = .returned (.int .i64 3)∧Below w.heap.size w w':=by
 have BA:=Lib.hid hBA
 have BC:=Lib.hid hBC
 have BX:=Lib.hid hBX
 clear hBA hBC hBX
 go_enter Tryz.func94,Tryz.ntmps94
 go_wp2_with fail
 refine (BA.out _).mono ?_;rintro e w1 ⟨rfl,hb⟩
 have H:=Hold.i222.below hb;clear hb;have F:=H.f;dsimp only [Fac] at F
 go_wp2_with fail
 refine (BC.out _).mono ?_;rintro e w2 ⟨rfl,hb⟩
 replace H:=H.below hb;clear hb;replace F:=H.f;dsimp only [Fac] at F
 go_wp2_with fail
 refine (BX.out _).mono ?_;rintro e w3 ⟨rfl,hb⟩
 replace H:=H.below hb;clear hb;replace F:=H.f;dsimp only [Fac] at F
 go_wp2_with fail
 go_ret
 exact ⟨rfl,H.B⟩
theorem local_sqrt_TTT (A Bh C D X Y:Int) (rA:Rg A) (rB:Rg Bh) (rC:Rg C) (rD:Rg D) (rX:Rg X) (rY:Rg Y) (h0:0≤A) (hBA : ∀ w,Calls Tryz.prog 92 #[.agg #[.float .f64 (ofKey (A)),.float .f64 (ofKey (Bh))]] w fun e w'=>e = .returned (.bool true)∧Below w.heap.size w w') (hBC : ∀ w,Calls Tryz.prog 92 #[.agg #[.float .f64 (ofKey (C)),.float .f64 (ofKey (D))]] w fun e w'=>e = .returned (.bool true)∧Below w.heap.size w w') (hBX : ∀ w,Calls Tryz.prog 92 #[.agg #[.float .f64 (ofKey (X)),.float .f64 (ofKey (Y))]] w fun e w'=>e = .returned (.bool true)∧Below w.heap.size w w') (w:World) :
  Calls Tryz.prog 94 #[.int .i64 (3),.agg #[.float .f64 (ofKey (A)),.float .f64 (ofKey (Bh))],.agg #[.float .f64 (ofKey (C)),.float .f64 (ofKey (D))],.agg #[.float .f64 (ofKey (X)),.float .f64 (ofKey (Y))]] w fun e w'=>e = .returned (.int .i64 4)∧Below w.heap.size w w':=by
 have BA:=Lib.hid hBA
 have BC:=Lib.hid hBC
 have BX:=Lib.hid hBX
 clear hBA hBC hBX
 go_enter Tryz.func94,Tryz.ntmps94
 go_wp2_with fail
 refine (BA.out _).mono ?_;rintro e w1 ⟨rfl,hb⟩
 have H:=Hold.i222.below hb;clear hb;have F:=H.f;dsimp only [Fac] at F
 go_wp2_with fail
 refine (BC.out _).mono ?_;rintro e w2 ⟨rfl,hb⟩
 replace H:=H.below hb;clear hb;replace F:=H.f;dsimp only [Fac] at F
 go_wp2_with fail
 refine (BX.out _).mono ?_;rintro e w3 ⟨rfl,hb⟩
 replace H:=H.below hb;clear hb;replace F:=H.f;dsimp only [Fac] at F
 go_wp2_with fail
 go_ret
 exact ⟨rfl,H.B⟩
theorem local_sqrt_neg (A Bh C D X Y:Int) (rA:Rg A) (rB:Rg Bh) (rC:Rg C) (rD:Rg D) (rX:Rg X) (rY:Rg Y) (h0:A<0) (w:World) :
  Calls Tryz.prog 94 #[.int .i64 (3),.agg #[.float .f64 (ofKey (A)),.float .f64 (ofKey (Bh))],.agg #[.float .f64 (ofKey (C)),.float .f64 (ofKey (D))],.agg #[.float .f64 (ofKey (X)),.float .f64 (ofKey (Y))]] w fun e w'=>e = .returned (.int .i64 1)∧Below w.heap.size w w':=by
 go_enter Tryz.func94,Tryz.ntmps94
 go_wp2_with fail
 go_ret
 exact ⟨rfl,by go_grown⟩
theorem local_other_F (o:Int) (A Bh C D X Y:Int) (rA:Rg A) (rB:Rg Bh) (rC:Rg C) (rD:Rg D) (rX:Rg X) (rY:Rg Y) (h3 : ¬o=3) (h4 : ¬o=4) (h5 : ¬o=5) (h9 : ¬o=9) (hBA : ∀ w,Calls Tryz.prog 92 #[.agg #[.float .f64 (ofKey (A)),.float .f64 (ofKey (Bh))]] w fun e w'=>e = .returned (.bool false)∧Below w.heap.size w w') (w:World) :
  Calls Tryz.prog 94 #[.int .i64 o,.agg #[.float .f64 (ofKey (A)),.float .f64 (ofKey (Bh))],.agg #[.float .f64 (ofKey (C)),.float .f64 (ofKey (D))],.agg #[.float .f64 (ofKey (X)),.float .f64 (ofKey (Y))]] w fun e w'=>e = .returned (.int .i64 3)∧Below w.heap.size w w':=by
 have BA:=Lib.hid hBA
 clear hBA
 go_enter Tryz.func94,Tryz.ntmps94
 go_wp2_with fail
 refine (BA.out _).mono ?_;rintro e w1 ⟨rfl,hb⟩
 have H:=Hold.i222.below hb;clear hb;have F:=H.f;dsimp only [Fac] at F
 go_wp2_with fail
 go_ret
 exact ⟨rfl,H.B⟩
theorem local_other_TF (o:Int) (A Bh C D X Y:Int) (rA:Rg A) (rB:Rg Bh) (rC:Rg C) (rD:Rg D) (rX:Rg X) (rY:Rg Y) (h3 : ¬o=3) (h4 : ¬o=4) (h5 : ¬o=5) (h9 : ¬o=9) (hBA : ∀ w,Calls Tryz.prog 92 #[.agg #[.float .f64 (ofKey (A)),.float .f64 (ofKey (Bh))]] w fun e w'=>e = .returned (.bool true)∧Below w.heap.size w w') (hBC : ∀ w,Calls Tryz.prog 92 #[.agg #[.float .f64 (ofKey (C)),.float .f64 (ofKey (D))]] w fun e w'=>e = .returned (.bool false)∧Below w.heap.size w w') (w:World) :
  Calls Tryz.prog 94 #[.int .i64 o,.agg #[.float .f64 (ofKey (A)),.float .f64 (ofKey (Bh))],.agg #[.float .f64 (ofKey (C)),.float .f64 (ofKey (D))],.agg #[.float .f64 (ofKey (X)),.float .f64 (ofKey (Y))]] w fun e w'=>e = .returned (.int .i64 3)∧Below w.heap.size w w':=by
 have BA:=Lib.hid hBA
 have BC:=Lib.hid hBC
 clear hBA hBC
 go_enter Tryz.func94,Tryz.ntmps94
 go_wp2_with fail
 refine (BA.out _).mono ?_;rintro e w1 ⟨rfl,hb⟩
 have H:=Hold.i222.below hb;clear hb;have F:=H.f;dsimp only [Fac] at F
 go_wp2_with fail
 refine (BC.out _).mono ?_;rintro e w2 ⟨rfl,hb⟩
 replace H:=H.below hb;clear hb;replace F:=H.f;dsimp only [Fac] at F
 go_wp2_with fail
 go_ret
 exact ⟨rfl,H.B⟩
theorem local_other_TTF (o:Int) (A Bh C D X Y:Int) (rA:Rg A) (rB:Rg Bh) (rC:Rg C) (rD:Rg D) (rX:Rg X) (rY:Rg Y) (h3 : ¬o=3) (h4 : ¬o=4) (h5 : ¬o=5) (h9 : ¬o=9) (hBA : ∀ w,Calls Tryz.prog 92 #[.agg #[.float .f64 (ofKey (A)),.float .f64 (ofKey (Bh))]] w fun e w'=>e = .returned (.bool true)∧Below w.heap.size w w') (hBC : ∀ w,Calls Tryz.prog 92 #[.agg #[.float .f64 (ofKey (C)),.float .f64 (ofKey (D))]] w fun e w'=>e = .returned (.bool true)∧Below w.heap.size w w') (hBX : ∀ w,Calls Tryz.prog 92 #[.agg #[.float .f64 (ofKey (X)),.float .f64 (ofKey (Y))]] w fun e w'=>e = .returned (.bool false)∧Below w.heap.size w w') (w:World) :
  Calls Tryz.prog 94 #[.int .i64 o,.agg #[.float .f64 (ofKey (A)),.float .f64 (ofKey (Bh))],.agg #[.float .f64 (ofKey (C)),.float .f64 (ofKey (D))],.agg #[.float .f64 (ofKey (X)),.float .f64 (ofKey (Y))]] w fun e w'=>e = .returned (.int .i64 3)∧Below w.heap.size w w':=by
 have BA:=Lib.hid hBA
 have BC:=Lib.hid hBC
 have BX:=Lib.hid hBX
 clear hBA hBC hBX
 go_enter Tryz.func94,Tryz.ntmps94
 go_wp2_with fail
 refine (BA.out _).mono ?_;rintro e w1 ⟨rfl,hb⟩
 have H:=Hold.i222.below hb;clear hb;have F:=H.f;dsimp only [Fac] at F
 go_wp2_with fail
 refine (BC.out _).mono ?_;rintro e w2 ⟨rfl,hb⟩
 replace H:=H.below hb;clear hb;replace F:=H.f;dsimp only [Fac] at F
 go_wp2_with fail
 refine (BX.out _).mono ?_;rintro e w3 ⟨rfl,hb⟩
 replace H:=H.below hb;clear hb;replace F:=H.f;dsimp only [Fac] at F
 go_wp2_with fail
 go_ret
 exact ⟨rfl,H.B⟩
theorem local_other_TTT (o:Int) (A Bh C D X Y:Int) (rA:Rg A) (rB:Rg Bh) (rC:Rg C) (rD:Rg D) (rX:Rg X) (rY:Rg Y) (h3 : ¬o=3) (h4 : ¬o=4) (h5 : ¬o=5) (h9 : ¬o=9) (hBA : ∀ w,Calls Tryz.prog 92 #[.agg #[.float .f64 (ofKey (A)),.float .f64 (ofKey (Bh))]] w fun e w'=>e = .returned (.bool true)∧Below w.heap.size w w') (hBC : ∀ w,Calls Tryz.prog 92 #[.agg #[.float .f64 (ofKey (C)),.float .f64 (ofKey (D))]] w fun e w'=>e = .returned (.bool true)∧Below w.heap.size w w') (hBX : ∀ w,Calls Tryz.prog 92 #[.agg #[.float .f64 (ofKey (X)),.float .f64 (ofKey (Y))]] w fun e w'=>e = .returned (.bool true)∧Below w.heap.size w w') (w:World) :
  Calls Tryz.prog 94 #[.int .i64 o,.agg #[.float .f64 (ofKey (A)),.float .f64 (ofKey (Bh))],.agg #[.float .f64 (ofKey (C)),.float .f64 (ofKey (D))],.agg #[.float .f64 (ofKey (X)),.float .f64 (ofKey (Y))]] w fun e w'=>e = .returned (.int .i64 4)∧Below w.heap.size w w':=by
 have BA:=Lib.hid hBA
 have BC:=Lib.hid hBC
 have BX:=Lib.hid hBX
 clear hBA hBC hBX
 go_enter Tryz.func94,Tryz.ntmps94
 go_wp2_with fail
 refine (BA.out _).mono ?_;rintro e w1 ⟨rfl,hb⟩
 have H:=Hold.i222.below hb;clear hb;have F:=H.f;dsimp only [Fac] at F
 go_wp2_with fail
 refine (BC.out _).mono ?_;rintro e w2 ⟨rfl,hb⟩
 replace H:=H.below hb;clear hb;replace F:=H.f;dsimp only [Fac] at F
 go_wp2_with fail
 refine (BX.out _).mono ?_;rintro e w3 ⟨rfl,hb⟩
 replace H:=H.below hb;clear hb;replace F:=H.f;dsimp only [Fac] at F
 go_wp2_with fail
 go_ret
 exact ⟨rfl,H.B⟩
theorem local_floor_unb (A Bh C D X Y:Int) (rA:Rg A) (rB:Rg Bh) (rC:Rg C) (rD:Rg D) (rX:Rg X) (rY:Rg Y) (hBB : ∀ w,Calls Tryz.prog 92 #[.agg #[.float .f64 (ofKey (A)),.float .f64 (ofKey (Bh))]] w fun e w'=>e = .returned (.bool false)∧Below w.heap.size w w') (w:World) :
  Calls Tryz.prog 94 #[.int .i64 (4),.agg #[.float .f64 (ofKey (A)),.float .f64 (ofKey (Bh))],.agg #[.float .f64 (ofKey (C)),.float .f64 (ofKey (D))],.agg #[.float .f64 (ofKey (X)),.float .f64 (ofKey (Y))]] w fun e w'=>e = .returned (.int .i64 2)∧Below w.heap.size w w':=by
 have BB:=Lib.hid hBB
 clear hBB
 have FA:=Lib.hid (fun w=>floor_any A rA w)
 have FB:=Lib.hid (fun w=>floor_any Bh rB w)
 have qa:=floorK_rg rA
 have qb:=floorK_rg rB
 have NA:=nn_ofKey qa
 generalize floorK A=fa at *
 generalize floorK Bh=fb at *
 go_enter Tryz.func94,Tryz.ntmps94
 go_wp2_with fail
 refine (FA.out _).mono ?_
 rintro e w' ⟨rfl,rfl⟩
 go_wp2_with fail
 refine (BB.out _).mono ?_;rintro e w1 ⟨rfl,hb⟩
 have H:=Hold.i222.below hb;clear hb;have F:=H.f;dsimp only [Fac] at F
 go_wp2_with fail
 go_ret
 exact ⟨rfl,H.B⟩
theorem local_floor_ne (A Bh C D X Y:Int) (rA:Rg A) (rB:Rg Bh) (rC:Rg C) (rD:Rg D) (rX:Rg X) (rY:Rg Y) (hBB : ∀ w,Calls Tryz.prog 92 #[.agg #[.float .f64 (ofKey (A)),.float .f64 (ofKey (Bh))]] w fun e w'=>e = .returned (.bool true)∧Below w.heap.size w w') (h1 : ¬floorK A=floorK Bh) (w:World) :
  Calls Tryz.prog 94 #[.int .i64 (4),.agg #[.float .f64 (ofKey (A)),.float .f64 (ofKey (Bh))],.agg #[.float .f64 (ofKey (C)),.float .f64 (ofKey (D))],.agg #[.float .f64 (ofKey (X)),.float .f64 (ofKey (Y))]] w fun e w'=>e = .returned (.int .i64 2)∧Below w.heap.size w w':=by
 have BB:=Lib.hid hBB
 clear hBB
 have FA:=Lib.hid (fun w=>floor_any A rA w)
 have FB:=Lib.hid (fun w=>floor_any Bh rB w)
 have qa:=floorK_rg rA
 have qb:=floorK_rg rB
 have NA:=nn_ofKey qa
 generalize floorK A=fa at *
 generalize floorK Bh=fb at *
 go_enter Tryz.func94,Tryz.ntmps94
 go_wp2_with fail
 refine (FA.out _).mono ?_
 rintro e w' ⟨rfl,rfl⟩
 go_wp2_with fail
 refine (BB.out _).mono ?_;rintro e w1 ⟨rfl,hb⟩
 have H:=Hold.i222.below hb;clear hb;have F:=H.f;dsimp only [Fac] at F
 go_wp2_with fail
 refine (FB.out _).mono ?_
 rintro e w' ⟨rfl,rfl⟩
 go_wp2_with fail
 go_ret
 exact ⟨rfl,H.B⟩
theorem local_floor_at (A Bh C D X Y:Int) (rA:Rg A) (rB:Rg Bh) (rC:Rg C) (rD:Rg D) (rX:Rg X) (rY:Rg Y) (hBB : ∀ w,Calls Tryz.prog 92 #[.agg #[.float .f64 (ofKey (A)),.float .f64 (ofKey (Bh))]] w fun e w'=>e = .returned (.bool true)∧Below w.heap.size w w') (h1:floorK A=floorK Bh) (h2:floorK A=A) (w:World) :
  Calls Tryz.prog 94 #[.int .i64 (4),.agg #[.float .f64 (ofKey (A)),.float .f64 (ofKey (Bh))],.agg #[.float .f64 (ofKey (C)),.float .f64 (ofKey (D))],.agg #[.float .f64 (ofKey (X)),.float .f64 (ofKey (Y))]] w fun e w'=>e = .returned (.int .i64 3)∧Below w.heap.size w w':=by
 have BB:=Lib.hid hBB
 clear hBB
 have FA:=Lib.hid (fun w=>floor_any A rA w)
 have FB:=Lib.hid (fun w=>floor_any Bh rB w)
 have qa:=floorK_rg rA
 have qb:=floorK_rg rB
 have NA:=nn_ofKey qa
 generalize floorK A=fa at *
 generalize floorK Bh=fb at *
 subst h1
 have h2':=h2.symm
 subst h2'
 go_enter Tryz.func94,Tryz.ntmps94
 go_wp2_with fail
 refine (FA.out _).mono ?_
 rintro e w' ⟨rfl,rfl⟩
 go_wp2_with fail
 refine (BB.out _).mono ?_;rintro e w1 ⟨rfl,hb⟩
 have H:=Hold.i222.below hb;clear hb;have F:=H.f;dsimp only [Fac] at F
 go_wp2_with fail
 refine (FB.out _).mono ?_
 rintro e w' ⟨rfl,rfl⟩
 go_wp2_with fail
 go_ret
 exact ⟨rfl,H.B⟩
theorem local_floor_TF (A Bh C D X Y:Int) (rA:Rg A) (rB:Rg Bh) (rC:Rg C) (rD:Rg D) (rX:Rg X) (rY:Rg Y) (hBB : ∀ w,Calls Tryz.prog 92 #[.agg #[.float .f64 (ofKey (A)),.float .f64 (ofKey (Bh))]] w fun e w'=>e = .returned (.bool true)∧Below w.heap.size w w') (h1:floorK A=floorK Bh) (h2 : ¬floorK A=A) (hBC : ∀ w,Calls Tryz.prog 92 #[.agg #[.float .f64 (ofKey (C)),.float .f64 (ofKey (D))]] w fun e w'=>e = .returned (.bool false)∧Below w.heap.size w w') (w:World) :
  Calls Tryz.prog 94 #[.int .i64 (4),.agg #[.float .f64 (ofKey (A)),.float .f64 (ofKey (Bh))],.agg #[.float .f64 (ofKey (C)),.float .f64 (ofKey (D))],.agg #[.float .f64 (ofKey (X)),.float .f64 (ofKey (Y))]] w fun e w'=>e = .returned (.int .i64 3)∧Below w.heap.size w w':=by
 have BB:=Lib.hid hBB
 have BC:=Lib.hid hBC
 clear hBB hBC
 have FA:=Lib.hid (fun w=>floor_any A rA w)
 have FB:=Lib.hid (fun w=>floor_any Bh rB w)
 have qa:=floorK_rg rA
 have qb:=floorK_rg rB
 have NA:=nn_ofKey qa
 generalize floorK A=fa at *
 generalize floorK Bh=fb at *
 subst h1
 go_enter Tryz.func94,Tryz.ntmps94
 go_wp2_with fail
 refine (FA.out _).mono ?_
 rintro e w' ⟨rfl,rfl⟩
 go_wp2_with fail
 refine (BB.out _).mono ?_;rintro e w1 ⟨rfl,hb⟩
 have H:=Hold.i222.below hb;clear hb;have F:=H.f;dsimp only [Fac] at F
 go_wp2_with fail
 refine (FB.out _).mono ?_
 rintro e w' ⟨rfl,rfl⟩
 go_wp2_with fail
 refine (BB.out _).mono ?_;rintro e w2 ⟨rfl,hb⟩
 replace H:=H.below hb;clear hb;replace F:=H.f;dsimp only [Fac] at F
 go_wp2_with fail
 refine (BC.out _).mono ?_;rintro e w3 ⟨rfl,hb⟩
 replace H:=H.below hb;clear hb;replace F:=H.f;dsimp only [Fac] at F
 go_wp2_with fail
 go_ret
 exact ⟨rfl,H.B⟩
theorem local_floor_TTF (A Bh C D X Y:Int) (rA:Rg A) (rB:Rg Bh) (rC:Rg C) (rD:Rg D) (rX:Rg X) (rY:Rg Y) (hBB : ∀ w,Calls Tryz.prog 92 #[.agg #[.float .f64 (ofKey (A)),.float .f64 (ofKey (Bh))]] w fun e w'=>e = .returned (.bool true)∧Below w.heap.size w w') (h1:floorK A=floorK Bh) (h2 : ¬floorK A=A) (hBC : ∀ w,Calls Tryz.prog 92 #[.agg #[.float .f64 (ofKey (C)),.float .f64 (ofKey (D))]] w fun e w'=>e = .returned (.bool true)∧Below w.heap.size w w') (hBX : ∀ w,Calls Tryz.prog 92 #[.agg #[.float .f64 (ofKey (X)),.float .f64 (ofKey (Y))]] w fun e w'=>e = .returned (.bool false)∧Below w.heap.size w w') (w:World) :
  Calls Tryz.prog 94 #[.int .i64 (4),.agg #[.float .f64 (ofKey (A)),.float .f64 (ofKey (Bh))],.agg #[.float .f64 (ofKey (C)),.float .f64 (ofKey (D))],.agg #[.float .f64 (ofKey (X)),.float .f64 (ofKey (Y))]] w fun e w'=>e = .returned (.int .i64 3)∧Below w.heap.size w w':=by
 have BB:=Lib.hid hBB
 have BC:=Lib.hid hBC
 have BX:=Lib.hid hBX
 clear hBB hBC hBX
 have FA:=Lib.hid (fun w=>floor_any A rA w)
 have FB:=Lib.hid (fun w=>floor_any Bh rB w)
 have qa:=floorK_rg rA
 have qb:=floorK_rg rB
 have NA:=nn_ofKey qa
 generalize floorK A=fa at *
 generalize floorK Bh=fb at *
 subst h1
 go_enter Tryz.func94,Tryz.ntmps94
 go_wp2_with fail
 refine (FA.out _).mono ?_
 rintro e w' ⟨rfl,rfl⟩
 go_wp2_with fail
 refine (BB.out _).mono ?_;rintro e w1 ⟨rfl,hb⟩
 have H:=Hold.i222.below hb;clear hb;have F:=H.f;dsimp only [Fac] at F
 go_wp2_with fail
 refine (FB.out _).mono ?_
 rintro e w' ⟨rfl,rfl⟩
 go_wp2_with fail
 refine (BB.out _).mono ?_;rintro e w2 ⟨rfl,hb⟩
 replace H:=H.below hb;clear hb;replace F:=H.f;dsimp only [Fac] at F
 go_wp2_with fail
 refine (BC.out _).mono ?_;rintro e w3 ⟨rfl,hb⟩
 replace H:=H.below hb;clear hb;replace F:=H.f;dsimp only [Fac] at F
 go_wp2_with fail
 refine (BX.out _).mono ?_;rintro e w4 ⟨rfl,hb⟩
 replace H:=H.below hb;clear hb;replace F:=H.f;dsimp only [Fac] at F
 go_wp2_with fail
 go_ret
 exact ⟨rfl,H.B⟩
theorem local_floor_TTT (A Bh C D X Y:Int) (rA:Rg A) (rB:Rg Bh) (rC:Rg C) (rD:Rg D) (rX:Rg X) (rY:Rg Y) (hBB : ∀ w,Calls Tryz.prog 92 #[.agg #[.float .f64 (ofKey (A)),.float .f64 (ofKey (Bh))]] w fun e w'=>e = .returned (.bool true)∧Below w.heap.size w w') (h1:floorK A=floorK Bh) (h2 : ¬floorK A=A) (hBC : ∀ w,Calls Tryz.prog 92 #[.agg #[.float .f64 (ofKey (C)),.float .f64 (ofKey (D))]] w fun e w'=>e = .returned (.bool true)∧Below w.heap.size w w') (hBX : ∀ w,Calls Tryz.prog 92 #[.agg #[.float .f64 (ofKey (X)),.float .f64 (ofKey (Y))]] w fun e w'=>e = .returned (.bool true)∧Below w.heap.size w w') (w:World) :
  Calls Tryz.prog 94 #[.int .i64 (4),.agg #[.float .f64 (ofKey (A)),.float .f64 (ofKey (Bh))],.agg #[.float .f64 (ofKey (C)),.float .f64 (ofKey (D))],.agg #[.float .f64 (ofKey (X)),.float .f64 (ofKey (Y))]] w fun e w'=>e = .returned (.int .i64 4)∧Below w.heap.size w w':=by
 have BB:=Lib.hid hBB
 have BC:=Lib.hid hBC
 have BX:=Lib.hid hBX
 clear hBB hBC hBX
 have FA:=Lib.hid (fun w=>floor_any A rA w)
 have FB:=Lib.hid (fun w=>floor_any Bh rB w)
 have qa:=floorK_rg rA
 have qb:=floorK_rg rB
 have NA:=nn_ofKey qa
 generalize floorK A=fa at *
 generalize floorK Bh=fb at *
 subst h1
 go_enter Tryz.func94,Tryz.ntmps94
 go_wp2_with fail
 refine (FA.out _).mono ?_
 rintro e w' ⟨rfl,rfl⟩
 go_wp2_with fail
 refine (BB.out _).mono ?_;rintro e w1 ⟨rfl,hb⟩
 have H:=Hold.i222.below hb;clear hb;have F:=H.f;dsimp only [Fac] at F
 go_wp2_with fail
 refine (FB.out _).mono ?_
 rintro e w' ⟨rfl,rfl⟩
 go_wp2_with fail
 refine (BB.out _).mono ?_;rintro e w2 ⟨rfl,hb⟩
 replace H:=H.below hb;clear hb;replace F:=H.f;dsimp only [Fac] at F
 go_wp2_with fail
 refine (BC.out _).mono ?_;rintro e w3 ⟨rfl,hb⟩
 replace H:=H.below hb;clear hb;replace F:=H.f;dsimp only [Fac] at F
 go_wp2_with fail
 refine (BX.out _).mono ?_;rintro e w4 ⟨rfl,hb⟩
 replace H:=H.below hb;clear hb;replace F:=H.f;dsimp only [Fac] at F
 go_wp2_with fail
 go_ret
 exact ⟨rfl,H.B⟩
theorem bnd_yes {a b:Int} (ha:Rg a) (hb:Rg b) (h:Bnd a b) : ∀ w,Calls Tryz.prog 92 #[.agg #[.float .f64 (ofKey (a)),.float .f64 (ofKey (b))]] w fun e w'=>e = .returned (.bool true)∧Below w.heap.size w w':=fun w=>by
 have:=bounded_any a b ha hb w
 rw [decide_eq_true (p := -PI<a∧a<PI ∧ -PI<b∧b<PI) h] at this;exact this
theorem bnd_no {a b:Int} (ha:Rg a) (hb:Rg b) (h : ¬Bnd a b) : ∀ w,Calls Tryz.prog 92 #[.agg #[.float .f64 (ofKey (a)),.float .f64 (ofKey (b))]] w fun e w'=>e = .returned (.bool false)∧Below w.heap.size w w':=fun w=>by
 have:=bounded_any a b ha hb w
 rw [decide_eq_false (p := -PI<a∧a<PI ∧ -PI<b∧b<PI) h] at this;exact this
theorem has_yes {a b:Int} (ha:Rg a) (hb:Rg b) (h:a≤0∧0≤b) : ∀ w,Calls Tryz.prog 127 #[.agg #[.float .f64 (ofKey (a)),.float .f64 (ofKey (b))]] w fun e w'=>e = .returned (.bool true)∧Below w.heap.size w w':=fun w=>by
 have:=ivlhas_any a b ha hb w
 rw [decide_eq_true h] at this;exact this
theorem has_no {a b:Int} (ha:Rg a) (hb:Rg b) (h : ¬(a≤0∧0≤b)) : ∀ w,Calls Tryz.prog 127 #[.agg #[.float .f64 (ofKey (a)),.float .f64 (ofKey (b))]] w fun e w'=>e = .returned (.bool false)∧Below w.heap.size w w':=fun w=>by
 have:=ivlhas_any a b ha hb w
 rw [decide_eq_false h] at this;exact this
theorem decolocal_any (o A B C D X Y:Int) (rA:Rg A) (rB:Rg B) (rC:Rg C) (rD:Rg D) (rX:Rg X) (rY:Rg Y) (hr:o=5→C=A∧D=B) (w:World) :
  Calls Tryz.prog 94 #[.int .i64 o,.agg #[.float .f64 (ofKey (A)),.float .f64 (ofKey (B))],.agg #[.float .f64 (ofKey (C)),.float .f64 (ofKey (D))],.agg #[.float .f64 (ofKey (X)),.float .f64 (ofKey (Y))]] w fun e w'=>e = .returned (.int .i64 (localK o A B C D X Y))∧Below w.heap.size w w':=by
 unfold localK
 by_cases g5:o=5
 ·obtain ⟨rfl,rfl⟩:=hr g5
  subst g5
  by_cases g:C≤0∧0≤D
  ·rw [if_pos ⟨rfl,g⟩]
   exact local_rec_has _ _ _ _ _ _ rA rB rC rD rX rY (has_yes rA rB g) w
  ·rw [if_neg (fun h=>g h.2),if_neg (by omega),if_neg (by omega),if_neg (by omega),if_neg (by omega)]
   by_cases b1:Bnd C D
   ·by_cases b2:Bnd X Y
    ·rw [if_pos ⟨b1,b1,b2⟩];exact local_rec_TTT _ _ _ _ _ _ rA rB rC rD rX rY (has_no rA rB g) (bnd_yes rA rB b1) (bnd_yes rX rY b2) w
    ·rw [if_neg (fun h=>b2 h.2.2)];exact local_rec_TTF _ _ _ _ _ _ rA rB rC rD rX rY (has_no rA rB g) (bnd_yes rA rB b1) (bnd_no rX rY b2) w
   ·rw [if_neg (fun h=>b1 h.1)];exact local_rec_F _ _ _ _ _ _ rA rB rC rD rX rY (has_no rA rB g) (bnd_no rA rB b1) w
 rw [if_neg (fun h=>g5 h.1)]
 clear hr
 by_cases g9:o=9
 ·subst g9
  by_cases g:C≤0∧0≤D
  ·rw [if_pos ⟨rfl,g⟩]
   exact local_div_has _ _ _ _ _ _ rA rB rC rD rX rY (has_yes rC rD g) w
  ·rw [if_neg (fun h=>g h.2),if_neg (by omega),if_neg (by omega),if_neg (by omega)]
   by_cases b1:Bnd A B
   ·by_cases b2:Bnd C D
    ·by_cases b3:Bnd X Y
     ·rw [if_pos ⟨b1,b2,b3⟩];exact local_div_TTT _ _ _ _ _ _ rA rB rC rD rX rY (has_no rC rD g) (bnd_yes rA rB b1) (bnd_yes rC rD b2) (bnd_yes rX rY b3) w
     ·rw [if_neg (fun h=>b3 h.2.2)];exact local_div_TTF _ _ _ _ _ _ rA rB rC rD rX rY (has_no rC rD g) (bnd_yes rA rB b1) (bnd_yes rC rD b2) (bnd_no rX rY b3) w
    ·rw [if_neg (fun h=>b2 h.2.1)];exact local_div_TF _ _ _ _ _ _ rA rB rC rD rX rY (has_no rC rD g) (bnd_yes rA rB b1) (bnd_no rC rD b2) w
   ·rw [if_neg (fun h=>b1 h.1)];exact local_div_F _ _ _ _ _ _ rA rB rC rD rX rY (has_no rC rD g) (bnd_no rA rB b1) w
 rw [if_neg (fun h=>g9 h.1)]
 by_cases g3:o=3
 ·subst g3
  by_cases g:A<0
  ·rw [if_pos ⟨rfl,g⟩]
   exact local_sqrt_neg _ _ _ _ _ _ rA rB rC rD rX rY g w
  ·rw [if_neg (fun h=>g h.2),if_neg (by omega),if_neg (by omega)]
   have g':0≤A:=by omega
   by_cases b1:Bnd A B
   ·by_cases b2:Bnd C D
    ·by_cases b3:Bnd X Y
     ·rw [if_pos ⟨b1,b2,b3⟩];exact local_sqrt_TTT _ _ _ _ _ _ rA rB rC rD rX rY g' (bnd_yes rA rB b1) (bnd_yes rC rD b2) (bnd_yes rX rY b3) w
     ·rw [if_neg (fun h=>b3 h.2.2)];exact local_sqrt_TTF _ _ _ _ _ _ rA rB rC rD rX rY g' (bnd_yes rA rB b1) (bnd_yes rC rD b2) (bnd_no rX rY b3) w
    ·rw [if_neg (fun h=>b2 h.2.1)];exact local_sqrt_TF _ _ _ _ _ _ rA rB rC rD rX rY g' (bnd_yes rA rB b1) (bnd_no rC rD b2) w
   ·rw [if_neg (fun h=>b1 h.1)];exact local_sqrt_F _ _ _ _ _ _ rA rB rC rD rX rY g' (bnd_no rA rB b1) w
 rw [if_neg (fun h=>g3 h.1)]
 by_cases g4:o=4
 ·subst g4
  by_cases b1:Bnd A B
  ·by_cases f1:floorK A=floorK B
   ·rw [if_neg (fun h=>h.2 ⟨b1,f1⟩)]
    by_cases f2:floorK A=A
    ·rw [if_pos ⟨rfl,f2⟩]
     exact local_floor_at _ _ _ _ _ _ rA rB rC rD rX rY (bnd_yes rA rB b1) f1 f2 w
    ·rw [if_neg (fun h=>f2 h.2)]
     by_cases b2:Bnd C D
     ·by_cases b3:Bnd X Y
      ·rw [if_pos ⟨b1,b2,b3⟩];exact local_floor_TTT _ _ _ _ _ _ rA rB rC rD rX rY (bnd_yes rA rB b1) f1 f2 (bnd_yes rC rD b2) (bnd_yes rX rY b3) w
      ·rw [if_neg (fun h=>b3 h.2.2)];exact local_floor_TTF _ _ _ _ _ _ rA rB rC rD rX rY (bnd_yes rA rB b1) f1 f2 (bnd_yes rC rD b2) (bnd_no rX rY b3) w
     ·rw [if_neg (fun h=>b2 h.2.1)];exact local_floor_TF _ _ _ _ _ _ rA rB rC rD rX rY (bnd_yes rA rB b1) f1 f2 (bnd_no rC rD b2) w
   ·rw [if_pos ⟨rfl,fun h=>f1 h.2⟩]
    exact local_floor_ne _ _ _ _ _ _ rA rB rC rD rX rY (bnd_yes rA rB b1) f1 w
  ·rw [if_pos ⟨rfl,fun h=>b1 h.1⟩]
   exact local_floor_unb _ _ _ _ _ _ rA rB rC rD rX rY (bnd_no rA rB b1) w
 rw [if_neg (fun h=>g4 h.1),if_neg (fun h=>g4 h.1)]
 by_cases b1:Bnd A B
 ·by_cases b2:Bnd C D
  ·by_cases b3:Bnd X Y
   ·rw [if_pos ⟨b1,b2,b3⟩];exact local_other_TTT _ _ _ _ _ _ _ rA rB rC rD rX rY g3 g4 g5 g9 (bnd_yes rA rB b1) (bnd_yes rC rD b2) (bnd_yes rX rY b3) w
   ·rw [if_neg (fun h=>b3 h.2.2)];exact local_other_TTF _ _ _ _ _ _ _ rA rB rC rD rX rY g3 g4 g5 g9 (bnd_yes rA rB b1) (bnd_yes rC rD b2) (bnd_no rX rY b3) w
  ·rw [if_neg (fun h=>b2 h.2.1)];exact local_other_TF _ _ _ _ _ _ _ rA rB rC rD rX rY g3 g4 g5 g9 (bnd_yes rA rB b1) (bnd_no rC rD b2) w
 ·rw [if_neg (fun h=>b1 h.1)];exact local_other_F _ _ _ _ _ _ _ rA rB rC rD rX rY g3 g4 g5 g9 (bnd_no rA rB b1) w
end Go.Proofs.YteephgpefhodnaaGreat
