/- The document's Apply: quotient. -/
import Derived.Test.YteephgpefhodnaaGreatG2
namespace Go.Proofs.YteephgpefhodnaaGreat
open Go.RowKit Go.Sort Go.Fl
set_option linter.unusedSimpArgs false
set_option linter.unusedVariables false
theorem refwhole_any (w:World) :
  Calls Tryz.prog 124 #[] w fun e w'=>e = .returned (.agg #[.float .f64 (ofKey (-PI)),.float .f64 (ofKey (PI))])∧Below w.heap.size w w':=by
 go_enter Tryz.func124,Tryz.ntmps124
 go_wp2_with (go_at_call 59;refine (refinf_any _).mono ?_;rintro e w' ⟨rfl,rfl⟩)
 go_returns
 exact ⟨rfl,by go_grown⟩
set_option maxRecDepth 4000 in
set_option maxHeartbeats 1000000 in
theorem rq_1 (a b c d:Int) (ra:Rg a) (rb:Rg b) (rc:Rg c) (rd:Rg d) (d1:decide (c=0)=true) (d2:decide (d=0)=true) (w:World) :
  Calls Tryz.prog 87 #[.agg #[.float .f64 (ofKey (a)),.float .f64 (ofKey (b))],.agg #[.float .f64 (ofKey (c)),.float .f64 (ofKey (d))]] w fun e w'=>e = .returned (.agg #[.float .f64 (ofKey (PI)),.float .f64 (ofKey (-PI))])∧Below w.heap.size w w':=by
 go_enter Tryz.func87,Tryz.ntmps87
 go_wp2_with fail
 refine (refempty_any _).mono ?_;rintro e w1 ⟨rfl,hb⟩
 have H:=Hold.i222.below hb;clear hb;have F:=H.f;dsimp only [Fac] at F
 go_wp2_with fail
 refine ((H.set 4 _).set 5 _).gob ?_;clear H F;intro wz H;dsimp only [upd] at H;have F:=H.f;dsimp only [Fac] at F
 refine bodyPost_ret (by simp [results,Tryz.results87,go_sem,F]) rfl ⟨rfl,?_⟩;exact H.B
set_option maxRecDepth 4000 in
set_option maxHeartbeats 1000000 in
theorem rq_2a (a b c d:Int) (ra:Rg a) (rb:Rg b) (rc:Rg c) (rd:Rg d) (dc:decide (c=0)=false) (d1:decide (a=0)=true) (d2:decide (b=0)=true) (w:World) :
  Calls Tryz.prog 87 #[.agg #[.float .f64 (ofKey (a)),.float .f64 (ofKey (b))],.agg #[.float .f64 (ofKey (c)),.float .f64 (ofKey (d))]] w fun e w'=>e = .returned (.agg #[.float .f64 (ofKey (a)),.float .f64 (ofKey (b))])∧Below w.heap.size w w':=by
 go_enter Tryz.func87,Tryz.ntmps87
 go_wp2_with fail
 go_returns
 exact ⟨rfl,by go_grown⟩
set_option maxRecDepth 4000 in
set_option maxHeartbeats 1000000 in
theorem rq_2b (a b c d:Int) (ra:Rg a) (rb:Rg b) (rc:Rg c) (rd:Rg d) (dc:decide (c=0)=true) (dd:decide (d=0)=false) (d1:decide (a=0)=true) (d2:decide (b=0)=true) (w:World) :
  Calls Tryz.prog 87 #[.agg #[.float .f64 (ofKey (a)),.float .f64 (ofKey (b))],.agg #[.float .f64 (ofKey (c)),.float .f64 (ofKey (d))]] w fun e w'=>e = .returned (.agg #[.float .f64 (ofKey (a)),.float .f64 (ofKey (b))])∧Below w.heap.size w w':=by
 go_enter Tryz.func87,Tryz.ntmps87
 go_wp2_with fail
 go_returns
 exact ⟨rfl,by go_grown⟩
set_option maxRecDepth 4000 in
set_option maxHeartbeats 1000000 in
theorem rq_3a (a b c d:Int) (ra:Rg a) (rb:Rg b) (rc:Rg c) (rd:Rg d) (h1:c<0) (h2:0<d) (n0 : ¬a=0) (w:World) :
  Calls Tryz.prog 87 #[.agg #[.float .f64 (ofKey (a)),.float .f64 (ofKey (b))],.agg #[.float .f64 (ofKey (c)),.float .f64 (ofKey (d))]] w fun e w'=>e = .returned (.agg #[.float .f64 (ofKey (-PI)),.float .f64 (ofKey (PI))])∧Below w.heap.size w w':=by
 have hP:=PI_pos
 have c0 : ¬c=0:=by omega
 have x0 : ¬a=0:=n0
 go_enter Tryz.func87,Tryz.ntmps87
 go_wp2_with fail
 refine (refwhole_any _).mono ?_;rintro e w1 ⟨rfl,hb⟩
 have H:=Hold.i222.below hb;clear hb;have F:=H.f;dsimp only [Fac] at F
 go_wp2_with fail
 refine ((H.set 4 _).set 5 _).gob ?_;clear H F;intro wz H;dsimp only [upd] at H;have F:=H.f;dsimp only [Fac] at F
 refine bodyPost_ret (by simp [results,Tryz.results87,go_sem,F]) rfl ⟨rfl,?_⟩;exact H.B
set_option maxRecDepth 4000 in
set_option maxHeartbeats 1000000 in
theorem rq_3b (a b c d:Int) (ra:Rg a) (rb:Rg b) (rc:Rg c) (rd:Rg d) (h1:c<0) (h2:0<d) (da:decide (a=0)=true) (n0 : ¬b=0) (w:World) :
  Calls Tryz.prog 87 #[.agg #[.float .f64 (ofKey (a)),.float .f64 (ofKey (b))],.agg #[.float .f64 (ofKey (c)),.float .f64 (ofKey (d))]] w fun e w'=>e = .returned (.agg #[.float .f64 (ofKey (-PI)),.float .f64 (ofKey (PI))])∧Below w.heap.size w w':=by
 have hP:=PI_pos
 have c0 : ¬c=0:=by omega
 have x0 : ¬b=0:=n0
 go_enter Tryz.func87,Tryz.ntmps87
 go_wp2_with fail
 refine (refwhole_any _).mono ?_;rintro e w1 ⟨rfl,hb⟩
 have H:=Hold.i222.below hb;clear hb;have F:=H.f;dsimp only [Fac] at F
 go_wp2_with fail
 refine ((H.set 4 _).set 5 _).gob ?_;clear H F;intro wz H;dsimp only [upd] at H;have F:=H.f;dsimp only [Fac] at F
 refine bodyPost_ret (by simp [results,Tryz.results87,go_sem,F]) rfl ⟨rfl,?_⟩;exact H.B
set_option maxRecDepth 4000 in
set_option maxHeartbeats 1000000 in
theorem rq_41011 (a b c d:Int) (ra:Rg a) (rb:Rg b) (rc:Rg c) (rd:Rg d) (L H:Int) (rL:Rg L) (rH:Rg H) (h1:0≤c) (h2:0<d) (ha:0≤a) (hb:0<b) (da:decide (a=0)=true) (dc:decide (c=0)=true) (hSL : ∀ w,Calls Tryz.prog 85 #[.int .i64 9,.float .f64 (ofKey (a)),.float .f64 (ofKey (d)),.bool false] w fun e w'=>e = .returned (.float .f64 (ofKey (L)))∧Below w.heap.size w w') (hSH : ∀ w,Calls Tryz.prog 85 #[.int .i64 9,.float .f64 (ofKey (b)),.float .f64 (ofKey (c)),.bool true] w fun e w'=>e = .returned (.float .f64 (ofKey (H)))∧Below w.heap.size w w') (w:World) :
  Calls Tryz.prog 87 #[.agg #[.float .f64 (ofKey (a)),.float .f64 (ofKey (b))],.agg #[.float .f64 (ofKey (c)),.float .f64 (ofKey (d))]] w fun e w'=>e = .returned (.agg #[.float .f64 (ofKey (L)),.float .f64 (ofKey (H))])∧Below w.heap.size w w':=by
 have SL:=Lib.hid hSL
 have SH:=Lib.hid hSH
 clear hSL hSH
 have dd:decide (d=0)=false:=decide_eq_false (by omega)
 have db:decide (b=0)=false:=decide_eq_false (by omega)
 go_enter Tryz.func87,Tryz.ntmps87
 go_wp2_with fail
 refine (SL.out _).mono ?_;rintro e w1 ⟨rfl,hb⟩
 have H:=Hold.i2222.below hb;clear hb;have F:=H.f;dsimp only [Fac] at F
 go_wp2_with fail
 refine (H.set 6 _).goc ?_;clear H F;intro w2 H;dsimp only [upd] at H;have F:=H.f;dsimp only [Fac] at F
 refine (SH.out _).mono ?_;rintro e w3 ⟨rfl,hb⟩
 replace H:=H.below hb;clear hb;replace F:=H.f;dsimp only [Fac] at F
 go_wp2_with fail
 refine (((H.set 7 _).set 4 _).set 5 _).gob ?_;clear H F;intro wz H;dsimp only [upd] at H;have F:=H.f;dsimp only [Fac] at F
 refine bodyPost_ret (by simp [results,Tryz.results87,go_sem,F]) rfl ⟨rfl,?_⟩;exact H.B
set_option maxRecDepth 4000 in
set_option maxHeartbeats 1000000 in
theorem rq_41010 (a b c d:Int) (ra:Rg a) (rb:Rg b) (rc:Rg c) (rd:Rg d) (L H:Int) (rL:Rg L) (rH:Rg H) (h1:0≤c) (h2:0<d) (ha:0≤a) (hb:0<b) (da:decide (a=0)=true) (dc:decide (c=0)=false) (hSL : ∀ w,Calls Tryz.prog 85 #[.int .i64 9,.float .f64 (ofKey (a)),.float .f64 (ofKey (d)),.bool false] w fun e w'=>e = .returned (.float .f64 (ofKey (L)))∧Below w.heap.size w w') (hSH : ∀ w,Calls Tryz.prog 85 #[.int .i64 9,.float .f64 (ofKey (b)),.float .f64 (ofKey (c)),.bool true] w fun e w'=>e = .returned (.float .f64 (ofKey (H)))∧Below w.heap.size w w') (w:World) :
  Calls Tryz.prog 87 #[.agg #[.float .f64 (ofKey (a)),.float .f64 (ofKey (b))],.agg #[.float .f64 (ofKey (c)),.float .f64 (ofKey (d))]] w fun e w'=>e = .returned (.agg #[.float .f64 (ofKey (L)),.float .f64 (ofKey (H))])∧Below w.heap.size w w':=by
 have SL:=Lib.hid hSL
 have SH:=Lib.hid hSH
 clear hSL hSH
 have dd:decide (d=0)=false:=decide_eq_false (by omega)
 have db:decide (b=0)=false:=decide_eq_false (by omega)
 go_enter Tryz.func87,Tryz.ntmps87
 go_wp2_with fail
 refine (SL.out _).mono ?_;rintro e w1 ⟨rfl,hb⟩
 have H:=Hold.i2222.below hb;clear hb;have F:=H.f;dsimp only [Fac] at F
 go_wp2_with fail
 refine (H.set 6 _).goc ?_;clear H F;intro w2 H;dsimp only [upd] at H;have F:=H.f;dsimp only [Fac] at F
 refine (SH.out _).mono ?_;rintro e w3 ⟨rfl,hb⟩
 replace H:=H.below hb;clear hb;replace F:=H.f;dsimp only [Fac] at F
 go_wp2_with fail
 refine (((H.set 7 _).set 4 _).set 5 _).gob ?_;clear H F;intro wz H;dsimp only [upd] at H;have F:=H.f;dsimp only [Fac] at F
 refine bodyPost_ret (by simp [results,Tryz.results87,go_sem,F]) rfl ⟨rfl,?_⟩;exact H.B
set_option maxRecDepth 4000 in
set_option maxHeartbeats 1000000 in
theorem rq_41001 (a b c d:Int) (ra:Rg a) (rb:Rg b) (rc:Rg c) (rd:Rg d) (L H:Int) (rL:Rg L) (rH:Rg H) (h1:0≤c) (h2:0<d) (ha:0≤a) (hb:0<b) (da:decide (a=0)=false) (dc:decide (c=0)=true) (hSL : ∀ w,Calls Tryz.prog 85 #[.int .i64 9,.float .f64 (ofKey (a)),.float .f64 (ofKey (d)),.bool false] w fun e w'=>e = .returned (.float .f64 (ofKey (L)))∧Below w.heap.size w w') (hSH : ∀ w,Calls Tryz.prog 85 #[.int .i64 9,.float .f64 (ofKey (b)),.float .f64 (ofKey (c)),.bool true] w fun e w'=>e = .returned (.float .f64 (ofKey (H)))∧Below w.heap.size w w') (w:World) :
  Calls Tryz.prog 87 #[.agg #[.float .f64 (ofKey (a)),.float .f64 (ofKey (b))],.agg #[.float .f64 (ofKey (c)),.float .f64 (ofKey (d))]] w fun e w'=>e = .returned (.agg #[.float .f64 (ofKey (L)),.float .f64 (ofKey (H))])∧Below w.heap.size w w':=by
 have SL:=Lib.hid hSL
 have SH:=Lib.hid hSH
 clear hSL hSH
 have dd:decide (d=0)=false:=decide_eq_false (by omega)
 have hpa:0<a:=by have:=of_decide_eq_false da;omega
 go_enter Tryz.func87,Tryz.ntmps87
 go_wp2_with fail
 refine (SL.out _).mono ?_;rintro e w1 ⟨rfl,hb⟩
 have H:=Hold.i2222.below hb;clear hb;have F:=H.f;dsimp only [Fac] at F
 go_wp2_with fail
 refine (H.set 6 _).goc ?_;clear H F;intro w2 H;dsimp only [upd] at H;have F:=H.f;dsimp only [Fac] at F
 refine (SH.out _).mono ?_;rintro e w3 ⟨rfl,hb⟩
 replace H:=H.below hb;clear hb;replace F:=H.f;dsimp only [Fac] at F
 go_wp2_with fail
 refine (((H.set 7 _).set 4 _).set 5 _).gob ?_;clear H F;intro wz H;dsimp only [upd] at H;have F:=H.f;dsimp only [Fac] at F
 refine bodyPost_ret (by simp [results,Tryz.results87,go_sem,F]) rfl ⟨rfl,?_⟩;exact H.B
set_option maxRecDepth 4000 in
set_option maxHeartbeats 1000000 in
theorem rq_41000 (a b c d:Int) (ra:Rg a) (rb:Rg b) (rc:Rg c) (rd:Rg d) (L H:Int) (rL:Rg L) (rH:Rg H) (h1:0≤c) (h2:0<d) (ha:0≤a) (hb:0<b) (da:decide (a=0)=false) (dc:decide (c=0)=false) (hSL : ∀ w,Calls Tryz.prog 85 #[.int .i64 9,.float .f64 (ofKey (a)),.float .f64 (ofKey (d)),.bool false] w fun e w'=>e = .returned (.float .f64 (ofKey (L)))∧Below w.heap.size w w') (hSH : ∀ w,Calls Tryz.prog 85 #[.int .i64 9,.float .f64 (ofKey (b)),.float .f64 (ofKey (c)),.bool true] w fun e w'=>e = .returned (.float .f64 (ofKey (H)))∧Below w.heap.size w w') (w:World) :
  Calls Tryz.prog 87 #[.agg #[.float .f64 (ofKey (a)),.float .f64 (ofKey (b))],.agg #[.float .f64 (ofKey (c)),.float .f64 (ofKey (d))]] w fun e w'=>e = .returned (.agg #[.float .f64 (ofKey (L)),.float .f64 (ofKey (H))])∧Below w.heap.size w w':=by
 have SL:=Lib.hid hSL
 have SH:=Lib.hid hSH
 clear hSL hSH
 have dd:decide (d=0)=false:=decide_eq_false (by omega)
 have hpa:0<a:=by have:=of_decide_eq_false da;omega
 go_enter Tryz.func87,Tryz.ntmps87
 go_wp2_with fail
 refine (SL.out _).mono ?_;rintro e w1 ⟨rfl,hb⟩
 have H:=Hold.i2222.below hb;clear hb;have F:=H.f;dsimp only [Fac] at F
 go_wp2_with fail
 refine (H.set 6 _).goc ?_;clear H F;intro w2 H;dsimp only [upd] at H;have F:=H.f;dsimp only [Fac] at F
 refine (SH.out _).mono ?_;rintro e w3 ⟨rfl,hb⟩
 replace H:=H.below hb;clear hb;replace F:=H.f;dsimp only [Fac] at F
 go_wp2_with fail
 refine (((H.set 7 _).set 4 _).set 5 _).gob ?_;clear H F;intro wz H;dsimp only [upd] at H;have F:=H.f;dsimp only [Fac] at F
 refine bodyPost_ret (by simp [results,Tryz.results87,go_sem,F]) rfl ⟨rfl,?_⟩;exact H.B
set_option maxRecDepth 4000 in
set_option maxHeartbeats 1000000 in
theorem rq_40101 (a b c d:Int) (ra:Rg a) (rb:Rg b) (rc:Rg c) (rd:Rg d) (L H:Int) (rL:Rg L) (rH:Rg H) (h1:0≤c) (h2:0<d) (ha:a<0) (hb:b≤0) (da:decide (a=0)=false) (dc:decide (c=0)=true) (hSL : ∀ w,Calls Tryz.prog 85 #[.int .i64 9,.float .f64 (ofKey (a)),.float .f64 (ofKey (c)),.bool false] w fun e w'=>e = .returned (.float .f64 (ofKey (L)))∧Below w.heap.size w w') (hSH : ∀ w,Calls Tryz.prog 85 #[.int .i64 9,.float .f64 (ofKey (b)),.float .f64 (ofKey (d)),.bool true] w fun e w'=>e = .returned (.float .f64 (ofKey (H)))∧Below w.heap.size w w') (w:World) :
  Calls Tryz.prog 87 #[.agg #[.float .f64 (ofKey (a)),.float .f64 (ofKey (b))],.agg #[.float .f64 (ofKey (c)),.float .f64 (ofKey (d))]] w fun e w'=>e = .returned (.agg #[.float .f64 (ofKey (L)),.float .f64 (ofKey (H))])∧Below w.heap.size w w':=by
 have SL:=Lib.hid hSL
 have SH:=Lib.hid hSH
 clear hSL hSH
 have dd:decide (d=0)=false:=decide_eq_false (by omega)
 go_enter Tryz.func87,Tryz.ntmps87
 go_wp2_with fail
 refine (SL.out _).mono ?_;rintro e w1 ⟨rfl,hb⟩
 have H:=Hold.i2222.below hb;clear hb;have F:=H.f;dsimp only [Fac] at F
 go_wp2_with fail
 refine (H.set 6 _).goc ?_;clear H F;intro w2 H;dsimp only [upd] at H;have F:=H.f;dsimp only [Fac] at F
 refine (SH.out _).mono ?_;rintro e w3 ⟨rfl,hb⟩
 replace H:=H.below hb;clear hb;replace F:=H.f;dsimp only [Fac] at F
 go_wp2_with fail
 refine (((H.set 7 _).set 4 _).set 5 _).gob ?_;clear H F;intro wz H;dsimp only [upd] at H;have F:=H.f;dsimp only [Fac] at F
 refine bodyPost_ret (by simp [results,Tryz.results87,go_sem,F]) rfl ⟨rfl,?_⟩;exact H.B
set_option maxRecDepth 4000 in
set_option maxHeartbeats 1000000 in
theorem rq_40100 (a b c d:Int) (ra:Rg a) (rb:Rg b) (rc:Rg c) (rd:Rg d) (L H:Int) (rL:Rg L) (rH:Rg H) (h1:0≤c) (h2:0<d) (ha:a<0) (hb:b≤0) (da:decide (a=0)=false) (dc:decide (c=0)=false) (hSL : ∀ w,Calls Tryz.prog 85 #[.int .i64 9,.float .f64 (ofKey (a)),.float .f64 (ofKey (c)),.bool false] w fun e w'=>e = .returned (.float .f64 (ofKey (L)))∧Below w.heap.size w w') (hSH : ∀ w,Calls Tryz.prog 85 #[.int .i64 9,.float .f64 (ofKey (b)),.float .f64 (ofKey (d)),.bool true] w fun e w'=>e = .returned (.float .f64 (ofKey (H)))∧Below w.heap.size w w') (w:World) :
  Calls Tryz.prog 87 #[.agg #[.float .f64 (ofKey (a)),.float .f64 (ofKey (b))],.agg #[.float .f64 (ofKey (c)),.float .f64 (ofKey (d))]] w fun e w'=>e = .returned (.agg #[.float .f64 (ofKey (L)),.float .f64 (ofKey (H))])∧Below w.heap.size w w':=by
 have SL:=Lib.hid hSL
 have SH:=Lib.hid hSH
 clear hSL hSH
 have dd:decide (d=0)=false:=decide_eq_false (by omega)
 go_enter Tryz.func87,Tryz.ntmps87
 go_wp2_with fail
 refine (SL.out _).mono ?_;rintro e w1 ⟨rfl,hb⟩
 have H:=Hold.i2222.below hb;clear hb;have F:=H.f;dsimp only [Fac] at F
 go_wp2_with fail
 refine (H.set 6 _).goc ?_;clear H F;intro w2 H;dsimp only [upd] at H;have F:=H.f;dsimp only [Fac] at F
 refine (SH.out _).mono ?_;rintro e w3 ⟨rfl,hb⟩
 replace H:=H.below hb;clear hb;replace F:=H.f;dsimp only [Fac] at F
 go_wp2_with fail
 refine (((H.set 7 _).set 4 _).set 5 _).gob ?_;clear H F;intro wz H;dsimp only [upd] at H;have F:=H.f;dsimp only [Fac] at F
 refine bodyPost_ret (by simp [results,Tryz.results87,go_sem,F]) rfl ⟨rfl,?_⟩;exact H.B
set_option maxRecDepth 4000 in
set_option maxHeartbeats 1000000 in
theorem rq_40001 (a b c d:Int) (ra:Rg a) (rb:Rg b) (rc:Rg c) (rd:Rg d) (L H:Int) (rL:Rg L) (rH:Rg H) (h1:0≤c) (h2:0<d) (ha:a<0) (hb:0<b) (da:decide (a=0)=false) (dc:decide (c=0)=true) (hSL : ∀ w,Calls Tryz.prog 85 #[.int .i64 9,.float .f64 (ofKey (a)),.float .f64 (ofKey (c)),.bool false] w fun e w'=>e = .returned (.float .f64 (ofKey (L)))∧Below w.heap.size w w') (hSH : ∀ w,Calls Tryz.prog 85 #[.int .i64 9,.float .f64 (ofKey (b)),.float .f64 (ofKey (c)),.bool true] w fun e w'=>e = .returned (.float .f64 (ofKey (H)))∧Below w.heap.size w w') (w:World) :
  Calls Tryz.prog 87 #[.agg #[.float .f64 (ofKey (a)),.float .f64 (ofKey (b))],.agg #[.float .f64 (ofKey (c)),.float .f64 (ofKey (d))]] w fun e w'=>e = .returned (.agg #[.float .f64 (ofKey (L)),.float .f64 (ofKey (H))])∧Below w.heap.size w w':=by
 have SL:=Lib.hid hSL
 have SH:=Lib.hid hSH
 clear hSL hSH
 have dd:decide (d=0)=false:=decide_eq_false (by omega)
 go_enter Tryz.func87,Tryz.ntmps87
 go_wp2_with fail
 refine (SL.out _).mono ?_;rintro e w1 ⟨rfl,hb⟩
 have H:=Hold.i2222.below hb;clear hb;have F:=H.f;dsimp only [Fac] at F
 go_wp2_with fail
 refine (H.set 6 _).goc ?_;clear H F;intro w2 H;dsimp only [upd] at H;have F:=H.f;dsimp only [Fac] at F
 refine (SH.out _).mono ?_;rintro e w3 ⟨rfl,hb⟩
 replace H:=H.below hb;clear hb;replace F:=H.f;dsimp only [Fac] at F
 go_wp2_with fail
 refine (((H.set 7 _).set 4 _).set 5 _).gob ?_;clear H F;intro wz H;dsimp only [upd] at H;have F:=H.f;dsimp only [Fac] at F
 refine bodyPost_ret (by simp [results,Tryz.results87,go_sem,F]) rfl ⟨rfl,?_⟩;exact H.B
set_option maxRecDepth 4000 in
set_option maxHeartbeats 1000000 in
theorem rq_40000 (a b c d:Int) (ra:Rg a) (rb:Rg b) (rc:Rg c) (rd:Rg d) (L H:Int) (rL:Rg L) (rH:Rg H) (h1:0≤c) (h2:0<d) (ha:a<0) (hb:0<b) (da:decide (a=0)=false) (dc:decide (c=0)=false) (hSL : ∀ w,Calls Tryz.prog 85 #[.int .i64 9,.float .f64 (ofKey (a)),.float .f64 (ofKey (c)),.bool false] w fun e w'=>e = .returned (.float .f64 (ofKey (L)))∧Below w.heap.size w w') (hSH : ∀ w,Calls Tryz.prog 85 #[.int .i64 9,.float .f64 (ofKey (b)),.float .f64 (ofKey (c)),.bool true] w fun e w'=>e = .returned (.float .f64 (ofKey (H)))∧Below w.heap.size w w') (w:World) :
  Calls Tryz.prog 87 #[.agg #[.float .f64 (ofKey (a)),.float .f64 (ofKey (b))],.agg #[.float .f64 (ofKey (c)),.float .f64 (ofKey (d))]] w fun e w'=>e = .returned (.agg #[.float .f64 (ofKey (L)),.float .f64 (ofKey (H))])∧Below w.heap.size w w':=by
 have SL:=Lib.hid hSL
 have SH:=Lib.hid hSH
 clear hSL hSH
 have dd:decide (d=0)=false:=decide_eq_false (by omega)
 go_enter Tryz.func87,Tryz.ntmps87
 go_wp2_with fail
 refine (SL.out _).mono ?_;rintro e w1 ⟨rfl,hb⟩
 have H:=Hold.i2222.below hb;clear hb;have F:=H.f;dsimp only [Fac] at F
 go_wp2_with fail
 refine (H.set 6 _).goc ?_;clear H F;intro w2 H;dsimp only [upd] at H;have F:=H.f;dsimp only [Fac] at F
 refine (SH.out _).mono ?_;rintro e w3 ⟨rfl,hb⟩
 replace H:=H.below hb;clear hb;replace F:=H.f;dsimp only [Fac] at F
 go_wp2_with fail
 refine (((H.set 7 _).set 4 _).set 5 _).gob ?_;clear H F;intro wz H;dsimp only [upd] at H;have F:=H.f;dsimp only [Fac] at F
 refine bodyPost_ret (by simp [results,Tryz.results87,go_sem,F]) rfl ⟨rfl,?_⟩;exact H.B
set_option maxRecDepth 4000 in
set_option maxHeartbeats 1000000 in
theorem rq_5a (a b c d:Int) (ra:Rg a) (rb:Rg b) (rc:Rg c) (rd:Rg d) (L H:Int) (rL:Rg L) (rH:Rg H) (ne:NE a b) (ne2:NE c d) (h1:c<0) (h2:d≤0) (da:decide (a=0)=false) (hr : ∀ w,Calls Tryz.prog 87 #[.agg #[.float .f64 (ofKey (-b)),.float .f64 (ofKey (-a))],.agg #[.float .f64 (ofKey (-d)),.float .f64 (ofKey (-c))]] w fun e w'=>e = .returned (.agg #[.float .f64 (ofKey (L)),.float .f64 (ofKey (H))])∧Below w.heap.size w w') (w:World) :
  Calls Tryz.prog 87 #[.agg #[.float .f64 (ofKey (a)),.float .f64 (ofKey (b))],.agg #[.float .f64 (ofKey (c)),.float .f64 (ofKey (d))]] w fun e w'=>e = .returned (.agg #[.float .f64 (ofKey (L)),.float .f64 (ofKey (H))])∧Below w.heap.size w w':=by
 have FA:=Lib.hid (fun w=>refflip_any a b ne w)
 have FC:=Lib.hid (fun w=>refflip_any c d ne2 w)
 have RC:=Lib.hid hr
 have dc:decide (c=0)=false:=decide_eq_false (by omega)
 have dp:decide (0<d)=false:=decide_eq_false (by omega)
 clear hr ne ne2
 go_enter Tryz.func87,Tryz.ntmps87
 go_wp2_with fail
 refine (FA.out _).mono ?_;rintro e w1 ⟨rfl,hb⟩
 have H:=Hold.i222.below hb;clear hb;have F:=H.f;dsimp only [Fac] at F
 go_wp2_with fail
 refine (FC.out _).mono ?_;rintro e w2 ⟨rfl,hb⟩
 have n1:=H.lt;dsimp only [Lts] at n1
 replace H:=(H.new2 _ _ _).below hb;dsimp only [add] at H;clear hb;replace F:=H.f;dsimp only [Fac] at F
 go_wp2_with fail
 refine (RC.out _).mono ?_;rintro e w3 ⟨rfl,hb⟩
 have n2:=H.lt;dsimp only [Lts] at n2
 replace H:=(H.new2 _ _ _).below hb;dsimp only [add] at H;clear hb;replace F:=H.f;dsimp only [Fac] at F
 go_wp2_with fail
 refine ((H.set 4 _).set 5 _).gob ?_;clear H F;intro wz H;dsimp only [upd] at H;have F:=H.f;dsimp only [Fac] at F
 refine bodyPost_ret (by simp [results,Tryz.results87,go_sem,F]) rfl ⟨rfl,?_⟩;exact H.B
set_option maxRecDepth 4000 in
set_option maxHeartbeats 1000000 in
theorem rq_5b (a b c d:Int) (ra:Rg a) (rb:Rg b) (rc:Rg c) (rd:Rg d) (L H:Int) (rL:Rg L) (rH:Rg H) (ne:NE a b) (ne2:NE c d) (h1:c<0) (h2:d≤0) (da:decide (a=0)=true) (db:decide (b=0)=false) (hr : ∀ w,Calls Tryz.prog 87 #[.agg #[.float .f64 (ofKey (-b)),.float .f64 (ofKey (-a))],.agg #[.float .f64 (ofKey (-d)),.float .f64 (ofKey (-c))]] w fun e w'=>e = .returned (.agg #[.float .f64 (ofKey (L)),.float .f64 (ofKey (H))])∧Below w.heap.size w w') (w:World) :
  Calls Tryz.prog 87 #[.agg #[.float .f64 (ofKey (a)),.float .f64 (ofKey (b))],.agg #[.float .f64 (ofKey (c)),.float .f64 (ofKey (d))]] w fun e w'=>e = .returned (.agg #[.float .f64 (ofKey (L)),.float .f64 (ofKey (H))])∧Below w.heap.size w w':=by
 have FA:=Lib.hid (fun w=>refflip_any a b ne w)
 have FC:=Lib.hid (fun w=>refflip_any c d ne2 w)
 have RC:=Lib.hid hr
 have dc:decide (c=0)=false:=decide_eq_false (by omega)
 have dp:decide (0<d)=false:=decide_eq_false (by omega)
 clear hr ne ne2
 go_enter Tryz.func87,Tryz.ntmps87
 go_wp2_with fail
 refine (FA.out _).mono ?_;rintro e w1 ⟨rfl,hb⟩
 have H:=Hold.i222.below hb;clear hb;have F:=H.f;dsimp only [Fac] at F
 go_wp2_with fail
 refine (FC.out _).mono ?_;rintro e w2 ⟨rfl,hb⟩
 have n1:=H.lt;dsimp only [Lts] at n1
 replace H:=(H.new2 _ _ _).below hb;dsimp only [add] at H;clear hb;replace F:=H.f;dsimp only [Fac] at F
 go_wp2_with fail
 refine (RC.out _).mono ?_;rintro e w3 ⟨rfl,hb⟩
 have n2:=H.lt;dsimp only [Lts] at n2
 replace H:=(H.new2 _ _ _).below hb;dsimp only [add] at H;clear hb;replace F:=H.f;dsimp only [Fac] at F
 go_wp2_with fail
 refine ((H.set 4 _).set 5 _).gob ?_;clear H F;intro wz H;dsimp only [upd] at H;have F:=H.f;dsimp only [Fac] at F
 refine bodyPost_ret (by simp [results,Tryz.results87,go_sem,F]) rfl ⟨rfl,?_⟩;exact H.B
theorem q_rg {a b:Int} (ra:Rg a) (rb:Rg b) (c d:Int):Rg (qLo a c d)∧Rg (qHi b c d):=by
 unfold qLo qHi
 constructor
 ·split
  ·exact endK_rg _ _ _ _ ra
  ·split
   ·exact endK_rg _ _ _ _ ra
   ·exact Rg_MI
 ·split
  ·exact endK_rg _ _ _ _ rb
  ·split
   ·exact endK_rg _ _ _ _ rb
   ·exact Rg_PI
theorem sq_1 {a c d:Int} (h2:0<d) (ha:0≤a):sideK a d false=qLo a c d:=by
 unfold sideK qLo;rw [if_neg (by omega),if_pos ha]
theorem sq_2 {a c d:Int} (h1:0≤c) (ha:a<0):sideK a c false=qLo a c d:=by
 unfold sideK qLo
 rw [if_neg (show ¬0≤a by omega)]
 by_cases h:c=0
 ·rw [if_pos h,if_neg (show ¬0<a by omega),if_neg (show ¬0<c by omega)]
 ·rw [if_neg h,if_pos (show 0<c by omega)]
theorem sq_3 {b c d:Int} (h2:0<d) (hb:b≤0):sideK b d true=qHi b c d:=by
 unfold sideK qHi;rw [if_neg (by omega),if_pos hb]
theorem sq_4 {b c d:Int} (h1:0≤c) (hb:0<b):sideK b c true=qHi b c d:=by
 unfold sideK qHi
 rw [if_neg (show ¬b≤0 by omega)]
 by_cases h:c=0
 ·rw [if_pos h,if_pos hb,if_neg (show ¬0<c by omega)]
 ·rw [if_neg h,if_pos (show 0<c by omega)]
theorem side_9e {x y k:Int} {up:Bool} (rx:Rg x) (ry:Rg y) (h0:0≤y) (e:sideK x y up=k) : ∀ w,Calls Tryz.prog 85 #[.int .i64 9,.float .f64 (ofKey (x)),.float .f64 (ofKey (y)),.bool up] w fun e w'=>e = .returned (.float .f64 (ofKey (k)))∧Below w.heap.size w w':=fun w=>by
 rw [←e];exact side_9 x y up rx ry h0 w
theorem dd_t {p:Prop} [Decidable p] (h:p):decide p=true:=decide_eq_true h
theorem dd_f {p:Prop} [Decidable p] (h : ¬p):decide p=false:=decide_eq_false h
theorem refq_pos (a b c d:Int) (ra:Rg a) (rb:Rg b) (rc:Rg c) (rd:Rg d) (g : ¬(a=0∧b=0)) (hab:a≤b) (h1:0≤c) (h2:0<d) (w:World) :
  Calls Tryz.prog 87 #[.agg #[.float .f64 (ofKey (a)),.float .f64 (ofKey (b))],.agg #[.float .f64 (ofKey (c)),.float .f64 (ofKey (d))]] w fun e w'=>e = .returned (.agg #[.float .f64 (ofKey (qLo a c d)),.float .f64 (ofKey (qHi b c d))])∧Below w.heap.size w w':=by
 obtain ⟨rL,rH⟩:=q_rg ra rb c d
 by_cases ha:0≤a
 ·have hb : ¬b≤0:=by omega
  by_cases z:a=0
  ·by_cases y:c=0
   ·exact rq_41011 a b c d ra rb rc rd _ _ rL rH h1 h2 ha (by omega) (dd_t z) (dd_t y) (side_9e ra rd (by omega) (sq_1 h2 ha)) (side_9e rb rc h1 (sq_4 h1 (by omega))) w
   ·exact rq_41010 a b c d ra rb rc rd _ _ rL rH h1 h2 ha (by omega) (dd_t z) (dd_f y) (side_9e ra rd (by omega) (sq_1 h2 ha)) (side_9e rb rc h1 (sq_4 h1 (by omega))) w
  ·by_cases y:c=0
   ·exact rq_41001 a b c d ra rb rc rd _ _ rL rH h1 h2 ha (by omega) (dd_f z) (dd_t y) (side_9e ra rd (by omega) (sq_1 h2 ha)) (side_9e rb rc h1 (sq_4 h1 (by omega))) w
   ·exact rq_41000 a b c d ra rb rc rd _ _ rL rH h1 h2 ha (by omega) (dd_f z) (dd_f y) (side_9e ra rd (by omega) (sq_1 h2 ha)) (side_9e rb rc h1 (sq_4 h1 (by omega))) w
 ·by_cases hb:b≤0
  ·by_cases y:c=0
   ·exact rq_40101 a b c d ra rb rc rd _ _ rL rH h1 h2 (by omega) hb (dd_f (by omega)) (dd_t y) (side_9e ra rc h1 (sq_2 h1 (by omega))) (side_9e rb rd (by omega) (sq_3 h2 hb)) w
   ·exact rq_40100 a b c d ra rb rc rd _ _ rL rH h1 h2 (by omega) hb (dd_f (by omega)) (dd_f y) (side_9e ra rc h1 (sq_2 h1 (by omega))) (side_9e rb rd (by omega) (sq_3 h2 hb)) w
  ·by_cases y:c=0
   ·exact rq_40001 a b c d ra rb rc rd _ _ rL rH h1 h2 (by omega) (by omega) (dd_f (by omega)) (dd_t y) (side_9e ra rc h1 (sq_2 h1 (by omega))) (side_9e rb rc h1 (sq_4 h1 (by omega))) w
   ·exact rq_40000 a b c d ra rb rc rd _ _ rL rH h1 h2 (by omega) (by omega) (dd_f (by omega)) (dd_f y) (side_9e ra rc h1 (sq_2 h1 (by omega))) (side_9e rb rc h1 (sq_4 h1 (by omega))) w
theorem refquot_any (a b c d:Int) (h:NE a b) (h':NE c d) (w:World) :
  Calls Tryz.prog 87 #[.agg #[.float .f64 (ofKey (a)),.float .f64 (ofKey (b))],.agg #[.float .f64 (ofKey (c)),.float .f64 (ofKey (d))]] w fun e w'=>e = .returned (.agg #[.float .f64 (ofKey (divLo a b c d)),.float .f64 (ofKey (divHi a b c d))])∧Below w.heap.size w w':=by
 obtain ⟨ra,rb,hab,_,_⟩:=id h
 obtain ⟨rc,rd,hcd,_,_⟩:=id h'
 by_cases g1:c=0∧d=0
 ·unfold divLo divHi
  rw [if_pos g1,if_pos g1]
  exact rq_1 a b c d ra rb rc rd (dd_t g1.1) (dd_t g1.2) w
 by_cases g2:a=0∧b=0
 ·unfold divLo divHi
  rw [if_neg g1,if_neg g1,if_pos g2,if_pos g2]
  obtain ⟨e1,e2⟩:=g2
  subst e1;subst e2
  by_cases y:c=0
  ·exact rq_2b 0 0 c d ra rb rc rd (dd_t y) (dd_f (by omega)) rfl rfl w
  ·exact rq_2a 0 0 c d ra rb rc rd (dd_f y) rfl rfl w
 rcases div_case h h' with ⟨e1,e2,e3,e4⟩|⟨e1,e2,e0,e3,e4⟩|⟨e1,e2,e3,e4⟩|⟨e1,e2,e3,e4⟩|⟨e1,e2,e3,e4⟩
 ·exact absurd ⟨e1,e2⟩ g1
 ·exact absurd ⟨e1,e2⟩ g2
 ·rw [e3,e4]
  by_cases z:a=0
  ·exact rq_3b a b c d ra rb rc rd e1 e2 (dd_t z) (fun z'=>g2 ⟨z,z'⟩) w
  ·exact rq_3a a b c d ra rb rc rd e1 e2 z w
 ·rw [e3,e4];exact refq_pos a b c d ra rb rc rd g2 hab e1 e2 w
 ·rw [e3,e4]
  obtain ⟨rL,rH⟩:=q_rg (Rg_neg rb) (Rg_neg ra) (-d) (-c)
  have hr:=fun w=>refq_pos (-b) (-a) (-d) (-c) (Rg_neg rb) (Rg_neg ra) (Rg_neg rd) (Rg_neg rc) (by omega) (by omega) (by omega) (by omega) w
  by_cases z:a=0
  ·exact rq_5b a b c d ra rb rc rd _ _ rL rH h h' e1 e2 (dd_t z) (dd_f (fun z'=>g2 ⟨z,z'⟩)) hr w
  ·exact rq_5a a b c d ra rb rc rd _ _ rL rH h h' e1 e2 (dd_f z) hr w
end Go.Proofs.YteephgpefhodnaaGreat
