/- Package ivl: quotients of intervals. Package ivl: Floor, find, Args. Package ivl: Apply. -/
import Derived.Test.YteephgpefhodnaaGreatCA
import Derived.Test.YteephgpefhodnaaGreatFC
import Derived.Test.YteephgpefhodnaaGreatA4
namespace Go.Proofs.YteephgpefhodnaaGreat
open Go.RowKit Go.Sort Go.Fl
set_option linter.unusedSimpArgs false
set_option linter.unusedVariables false
noncomputable def divPLo (a b c d:Int):Int:=if a=0∧b=0 then 0 else if 0<c∧d<PI then loN 9 a b c d 4 else if 0≤a then endK 9 a d false else if 0<c then endK 9 a c false else -PI
noncomputable def divPHi (a b c d:Int):Int:=if a=0∧b=0 then 0 else if 0<c∧d<PI then hiN 9 a b c d 4 else if b≤0 then endK 9 b d true else if 0<c then endK 9 b c true else PI
noncomputable def divLo (a b c d:Int):Int:=if c=0∧d=0 then PI else if a=0∧b=0 then 0 else if c<0∧0<d then -PI else if d≤0 then divPLo (-b) (-a) (-d) (-c) else divPLo a b c d
noncomputable def divHi (a b c d:Int):Int:=if c=0∧d=0 then -PI else if a=0∧b=0 then 0 else if c<0∧0<d then PI else if d≤0 then divPHi (-b) (-a) (-d) (-c) else divPHi a b c d
set_option maxHeartbeats 1000000 in
theorem div_p1 (a b c d:Int) (ha:Rg a) (hb:Rg b) (hc:Rg c) (hd:Rg d) (h0:0≤c) (h1:0<d) (dA:decide (a=0)=true) (dB:decide (b=0)=true) (w:World) :
  Calls Tryz.prog 117 #[.agg #[.float .f64 (ofKey (a)),.float .f64 (ofKey (b))],.agg #[.float .f64 (ofKey (c)),.float .f64 (ofKey (d))]] w fun e w'=>e = .returned (.agg #[.float .f64 (ofKey (0)),.float .f64 (ofKey (0))])∧Below w.heap.size w w':=by
 have he:=eqiv
 have hP:=PI_pos
 have q1:=ha.1;have q2:=ha.2;have q3:=hb.1;have q4:=hb.2;have q5:=hc.1;have q6:=hc.2;have q7:=hd.1;have q8:=hd.2
 have dD:decide (d=0)=false:=decide_eq_false (by omega)
 rw [←zero_ofKey]
 go_enter Tryz.func117,Tryz.ntmps117
 go_wp2_with fail
 refine Hold.i222.go ?_;intro wl H;have F:=H.f;dsimp only [Fac] at F
 have k:=H.r;dsimp only [Reg] at k
 refine wp_region_below (by kernel_rfl) (by kernel_rfl) ?_
 repeat (go_big_quiet_step ((go_at_call 137;exact Calls.regrown_of (ivlzero_any _))))
 refine wpQuiet_nil (fun w1 hb => ?_);clear k
 replace H:=H.below hb;clear hb;replace F:=H.f;dsimp only [Fac] at F
 go_wp2_with fail
 have k:=H.r;dsimp only [Reg] at k
 refine wp_region_below (by kernel_rfl) (by kernel_rfl) ?_
 repeat (go_big_quiet_step ((go_at_call 137;exact Calls.regrown_of (ivlzero_any _))))
 refine wpQuiet_nil (fun w2 hb => ?_);clear k
 replace H:=H.below hb;clear hb;replace F:=H.f;dsimp only [Fac] at F
 go_wp2_with fail
 refine (ivlzero_any _).mono ?_;rintro e w3 ⟨rfl,hb⟩
 replace H:=H.below hb;clear hb;replace F:=H.f;dsimp only [Fac] at F
 go_wp2_with fail
 refine ((H.set 4 _).set 5 _).gob ?_;clear H F;intro wz H;dsimp only [upd] at H;have F:=H.f;dsimp only [Fac] at F
 refine bodyPost_ret (by simp [results,Tryz.results117,go_sem,F]) rfl ⟨rfl,?_⟩;exact H.B
set_option maxHeartbeats 1000000 in
theorem div_p2 (a b c d:Int) (ha:Rg a) (hb:Rg b) (hc:Rg c) (hd:Rg d) (h0:0≤c) (h1:0<d) (hAB:(decide (a=0)&&decide (b=0))=false) (h2:0<c) (h3:d<PI) (w:World) :
  Calls Tryz.prog 117 #[.agg #[.float .f64 (ofKey (a)),.float .f64 (ofKey (b))],.agg #[.float .f64 (ofKey (c)),.float .f64 (ofKey (d))]] w fun e w'=>e = .returned (.agg #[.float .f64 (ofKey (loN 9 a b c d 4)),.float .f64 (ofKey (hiN 9 a b c d 4))])∧Below w.heap.size w w':=by
 have he:=eqiv
 have hP:=PI_pos
 have q1:=ha.1;have q2:=ha.2;have q3:=hb.1;have q4:=hb.2;have q5:=hc.1;have q6:=hc.2;have q7:=hd.1;have q8:=hd.2
 have dD:decide (d=0)=false:=decide_eq_false (by omega)
 have EN:=Lib.hid (fun w=>ends_any 9 a b c d ha hb hc hd (fun x y _ h => .inr (.inr ⟨rfl,by omega⟩)) w)
 generalize loN 9 a b c d 4=x at *
 generalize hiN 9 a b c d 4=y at *
 go_enter Tryz.func117,Tryz.ntmps117
 go_wp2_with fail
 refine Hold.i222.go ?_;intro wl H;have F:=H.f;dsimp only [Fac] at F
 have k:=H.r;dsimp only [Reg] at k
 refine wp_region_below (by kernel_rfl) (by kernel_rfl) ?_
 repeat (go_big_quiet_step ((go_at_call 137;exact Calls.regrown_of (ivlzero_any _))))
 refine wpQuiet_nil (fun w1 hb => ?_);clear k
 replace H:=H.below hb;clear hb;replace F:=H.f;dsimp only [Fac] at F
 go_wp2_with fail
 have k:=H.r;dsimp only [Reg] at k
 refine wp_region_below (by kernel_rfl) (by kernel_rfl) ?_
 repeat (go_big_quiet_step ((go_at_call 137;exact Calls.regrown_of (ivlzero_any _))))
 refine wpQuiet_nil (fun w2 hb => ?_);clear k
 replace H:=H.below hb;clear hb;replace F:=H.f;dsimp only [Fac] at F
 go_wp2_with fail
 have k:=H.r;dsimp only [Reg] at k
 refine wp_region_below (by kernel_rfl) (by kernel_rfl) ?_
 repeat (go_big_quiet_step ((go_at_call 90;exact quiet_same (ivlinf_any _))))
 refine wpQuiet_nil (fun w3 hb => ?_);clear k
 replace H:=H.below hb;clear hb;replace F:=H.f;dsimp only [Fac] at F
 go_wp2_with fail
 refine (EN.out _).mono ?_;rintro e w4 ⟨rfl,hb⟩
 replace H:=H.below hb;clear hb;replace F:=H.f;dsimp only [Fac] at F
 go_wp2_with fail
 refine ((H.set 4 _).set 5 _).gob ?_;clear H F;intro wz H;dsimp only [upd] at H;have F:=H.f;dsimp only [Fac] at F
 refine bodyPost_ret (by simp [results,Tryz.results117,go_sem,F]) rfl ⟨rfl,?_⟩;exact H.B
set_option maxHeartbeats 1000000 in
theorem div_p3zPN (a b c d:Int) (ha:Rg a) (hb:Rg b) (hc:Rg c) (hd:Rg d) (h0:0≤c) (h1:0<d) (hAB:(decide (a=0)&&decide (b=0))=false) (h2:c=0) (h4:0≤a) (h5:b≤0) (w:World) :
  Calls Tryz.prog 117 #[.agg #[.float .f64 (ofKey (a)),.float .f64 (ofKey (b))],.agg #[.float .f64 (ofKey (c)),.float .f64 (ofKey (d))]] w fun e w'=>e = .returned (.agg #[.float .f64 (ofKey (endK 9 a d false)),.float .f64 (ofKey (endK 9 b d true))])∧Below w.heap.size w w':=by
 have he:=eqiv
 have hP:=PI_pos
 have q1:=ha.1;have q2:=ha.2;have q3:=hb.1;have q4:=hb.2;have q5:=hc.1;have q6:=hc.2;have q7:=hd.1;have q8:=hd.2
 have dD:decide (d=0)=false:=decide_eq_false (by omega)
 have dp:decide (0<c)=false:=decide_eq_false (by omega)
 have EL:=Lib.hid (fun w=>ivlend_any 9 a d false ha hd (.inr (.inr ⟨rfl,by omega⟩)) w)
 generalize endK 9 a d false=x at *
 have EH:=Lib.hid (fun w=>ivlend_any 9 b d true hb hd (.inr (.inr ⟨rfl,by omega⟩)) w)
 generalize endK 9 b d true=y at *
 clear h2
 go_enter Tryz.func117,Tryz.ntmps117
 go_wp2_with fail
 refine Hold.i222.go ?_;intro wl H;have F:=H.f;dsimp only [Fac] at F
 have k:=H.r;dsimp only [Reg] at k
 refine wp_region_below (by kernel_rfl) (by kernel_rfl) ?_
 repeat (go_big_quiet_step ((go_at_call 137;exact Calls.regrown_of (ivlzero_any _))))
 refine wpQuiet_nil (fun w1 hb => ?_);clear k
 replace H:=H.below hb;clear hb;replace F:=H.f;dsimp only [Fac] at F
 go_wp2_with fail
 have k:=H.r;dsimp only [Reg] at k
 refine wp_region_below (by kernel_rfl) (by kernel_rfl) ?_
 repeat (go_big_quiet_step ((go_at_call 137;exact Calls.regrown_of (ivlzero_any _))))
 refine wpQuiet_nil (fun w2 hb => ?_);clear k
 replace H:=H.below hb;clear hb;replace F:=H.f;dsimp only [Fac] at F
 go_wp2_with fail
 have k:=H.r;dsimp only [Reg] at k
 refine wp_region_below (by kernel_rfl) (by kernel_rfl) ?_
 repeat (go_big_quiet_step ((go_at_call 90;exact quiet_same (ivlinf_any _))))
 refine wpQuiet_nil (fun w3 hb => ?_);clear k
 replace H:=H.below hb;clear hb;replace F:=H.f;dsimp only [Fac] at F
 go_wp2_with (go_at_call 90;refine (ivlinf_any _).mono ?_;rintro e w' ⟨rfl,rfl⟩)
 have n1:=H.lt;dsimp only [Lts] at n1
 refine (H.new2 _ _ _).goc ?_;clear H F;intro w4 H;dsimp only [add] at H;have F:=H.f;dsimp only [Fac] at F
 refine (EL.out _).mono ?_;rintro e w5 ⟨rfl,hb⟩
 replace H:=H.below hb;clear hb;replace F:=H.f;dsimp only [Fac] at F
 go_wp2_with fail
 refine (H.set 6 _).goc ?_;clear H F;intro w6 H;dsimp only [upd] at H;have F:=H.f;dsimp only [Fac] at F
 refine (EH.out _).mono ?_;rintro e w7 ⟨rfl,hb⟩
 replace H:=H.below hb;clear hb;replace F:=H.f;dsimp only [Fac] at F
 go_wp2_with fail
 first|refine (((H.set 7 _).set 4 _).set 5 _).goc ?_|refine (((H.set 7 _).set 4 _).set 5 _).gol ?_|refine (((H.set 7 _).set 4 _).set 5 _).go ?_|refine (((H.set 7 _).set 4 _).set 5 _).gob ?_
 clear H F;intro wz H;dsimp only [upd] at H;have F:=H.f;dsimp only [Fac] at F
 refine bodyPost_ret (v := .agg #[.float .f64 (ofKey (x)),.float .f64 (ofKey (y))]) (by simp [results,Tryz.results117,go_sem,F]) rfl ⟨rfl,?_⟩
 exact H.B
set_option maxHeartbeats 1000000 in
theorem div_p3zPP (a b c d:Int) (ha:Rg a) (hb:Rg b) (hc:Rg c) (hd:Rg d) (h0:0≤c) (h1:0<d) (hAB:(decide (a=0)&&decide (b=0))=false) (h2:c=0) (h4:0≤a) (h5:0<b) (w:World) :
  Calls Tryz.prog 117 #[.agg #[.float .f64 (ofKey (a)),.float .f64 (ofKey (b))],.agg #[.float .f64 (ofKey (c)),.float .f64 (ofKey (d))]] w fun e w'=>e = .returned (.agg #[.float .f64 (ofKey (endK 9 a d false)),.float .f64 (ofKey (PI))])∧Below w.heap.size w w':=by
 have he:=eqiv
 have hP:=PI_pos
 have q1:=ha.1;have q2:=ha.2;have q3:=hb.1;have q4:=hb.2;have q5:=hc.1;have q6:=hc.2;have q7:=hd.1;have q8:=hd.2
 have dD:decide (d=0)=false:=decide_eq_false (by omega)
 have dp:decide (0<c)=false:=decide_eq_false (by omega)
 have EL:=Lib.hid (fun w=>ivlend_any 9 a d false ha hd (.inr (.inr ⟨rfl,by omega⟩)) w)
 generalize endK 9 a d false=x at *
 clear h2
 go_enter Tryz.func117,Tryz.ntmps117
 go_wp2_with fail
 refine Hold.i222.go ?_;intro wl H;have F:=H.f;dsimp only [Fac] at F
 have k:=H.r;dsimp only [Reg] at k
 refine wp_region_below (by kernel_rfl) (by kernel_rfl) ?_
 repeat (go_big_quiet_step ((go_at_call 137;exact Calls.regrown_of (ivlzero_any _))))
 refine wpQuiet_nil (fun w1 hb => ?_);clear k
 replace H:=H.below hb;clear hb;replace F:=H.f;dsimp only [Fac] at F
 go_wp2_with fail
 have k:=H.r;dsimp only [Reg] at k
 refine wp_region_below (by kernel_rfl) (by kernel_rfl) ?_
 repeat (go_big_quiet_step ((go_at_call 137;exact Calls.regrown_of (ivlzero_any _))))
 refine wpQuiet_nil (fun w2 hb => ?_);clear k
 replace H:=H.below hb;clear hb;replace F:=H.f;dsimp only [Fac] at F
 go_wp2_with fail
 have k:=H.r;dsimp only [Reg] at k
 refine wp_region_below (by kernel_rfl) (by kernel_rfl) ?_
 repeat (go_big_quiet_step ((go_at_call 90;exact quiet_same (ivlinf_any _))))
 refine wpQuiet_nil (fun w3 hb => ?_);clear k
 replace H:=H.below hb;clear hb;replace F:=H.f;dsimp only [Fac] at F
 go_wp2_with (go_at_call 90;refine (ivlinf_any _).mono ?_;rintro e w' ⟨rfl,rfl⟩)
 have n1:=H.lt;dsimp only [Lts] at n1
 refine (H.new2 _ _ _).goc ?_;clear H F;intro w4 H;dsimp only [add] at H;have F:=H.f;dsimp only [Fac] at F
 refine (EL.out _).mono ?_;rintro e w5 ⟨rfl,hb⟩
 replace H:=H.below hb;clear hb;replace F:=H.f;dsimp only [Fac] at F
 go_wp2_with fail
 first|refine (((H.set 6 _).set 4 _).set 5 _).goc ?_|refine (((H.set 6 _).set 4 _).set 5 _).gol ?_|refine (((H.set 6 _).set 4 _).set 5 _).go ?_|refine (((H.set 6 _).set 4 _).set 5 _).gob ?_
 clear H F;intro wz H;dsimp only [upd] at H;have F:=H.f;dsimp only [Fac] at F
 refine bodyPost_ret (v := .agg #[.float .f64 (ofKey (x)),.float .f64 (ofKey (PI))]) (by simp [results,Tryz.results117,go_sem,F]) rfl ⟨rfl,?_⟩
 exact H.B
set_option maxHeartbeats 1000000 in
theorem div_p3zNN (a b c d:Int) (ha:Rg a) (hb:Rg b) (hc:Rg c) (hd:Rg d) (h0:0≤c) (h1:0<d) (hAB:(decide (a=0)&&decide (b=0))=false) (h2:c=0) (h4:a<0) (h5:b≤0) (w:World) :
  Calls Tryz.prog 117 #[.agg #[.float .f64 (ofKey (a)),.float .f64 (ofKey (b))],.agg #[.float .f64 (ofKey (c)),.float .f64 (ofKey (d))]] w fun e w'=>e = .returned (.agg #[.float .f64 (ofKey (-PI)),.float .f64 (ofKey (endK 9 b d true))])∧Below w.heap.size w w':=by
 have he:=eqiv
 have hP:=PI_pos
 have q1:=ha.1;have q2:=ha.2;have q3:=hb.1;have q4:=hb.2;have q5:=hc.1;have q6:=hc.2;have q7:=hd.1;have q8:=hd.2
 have dD:decide (d=0)=false:=decide_eq_false (by omega)
 have dp:decide (0<c)=false:=decide_eq_false (by omega)
 have EH:=Lib.hid (fun w=>ivlend_any 9 b d true hb hd (.inr (.inr ⟨rfl,by omega⟩)) w)
 generalize endK 9 b d true=y at *
 clear h2
 go_enter Tryz.func117,Tryz.ntmps117
 go_wp2_with fail
 refine Hold.i222.go ?_;intro wl H;have F:=H.f;dsimp only [Fac] at F
 have k:=H.r;dsimp only [Reg] at k
 refine wp_region_below (by kernel_rfl) (by kernel_rfl) ?_
 repeat (go_big_quiet_step ((go_at_call 137;exact Calls.regrown_of (ivlzero_any _))))
 refine wpQuiet_nil (fun w1 hb => ?_);clear k
 replace H:=H.below hb;clear hb;replace F:=H.f;dsimp only [Fac] at F
 go_wp2_with fail
 have k:=H.r;dsimp only [Reg] at k
 refine wp_region_below (by kernel_rfl) (by kernel_rfl) ?_
 repeat (go_big_quiet_step ((go_at_call 137;exact Calls.regrown_of (ivlzero_any _))))
 refine wpQuiet_nil (fun w2 hb => ?_);clear k
 replace H:=H.below hb;clear hb;replace F:=H.f;dsimp only [Fac] at F
 go_wp2_with fail
 have k:=H.r;dsimp only [Reg] at k
 refine wp_region_below (by kernel_rfl) (by kernel_rfl) ?_
 repeat (go_big_quiet_step ((go_at_call 90;exact quiet_same (ivlinf_any _))))
 refine wpQuiet_nil (fun w3 hb => ?_);clear k
 replace H:=H.below hb;clear hb;replace F:=H.f;dsimp only [Fac] at F
 go_wp2_with (go_at_call 90;refine (ivlinf_any _).mono ?_;rintro e w' ⟨rfl,rfl⟩)
 have n1:=H.lt;dsimp only [Lts] at n1
 refine (H.new2 _ _ _).goc ?_;clear H F;intro w6 H;dsimp only [add] at H;have F:=H.f;dsimp only [Fac] at F
 refine (EH.out _).mono ?_;rintro e w7 ⟨rfl,hb⟩
 replace H:=H.below hb;clear hb;replace F:=H.f;dsimp only [Fac] at F
 go_wp2_with fail
 first|refine (((H.set 7 _).set 4 _).set 5 _).goc ?_|refine (((H.set 7 _).set 4 _).set 5 _).gol ?_|refine (((H.set 7 _).set 4 _).set 5 _).go ?_|refine (((H.set 7 _).set 4 _).set 5 _).gob ?_
 clear H F;intro wz H;dsimp only [upd] at H;have F:=H.f;dsimp only [Fac] at F
 refine bodyPost_ret (v := .agg #[.float .f64 (ofKey (-PI)),.float .f64 (ofKey (y))]) (by simp [results,Tryz.results117,go_sem,F]) rfl ⟨rfl,?_⟩
 exact H.B
set_option maxHeartbeats 1000000 in
theorem div_p3zNP (a b c d:Int) (ha:Rg a) (hb:Rg b) (hc:Rg c) (hd:Rg d) (h0:0≤c) (h1:0<d) (hAB:(decide (a=0)&&decide (b=0))=false) (h2:c=0) (h4:a<0) (h5:0<b) (w:World) :
  Calls Tryz.prog 117 #[.agg #[.float .f64 (ofKey (a)),.float .f64 (ofKey (b))],.agg #[.float .f64 (ofKey (c)),.float .f64 (ofKey (d))]] w fun e w'=>e = .returned (.agg #[.float .f64 (ofKey (-PI)),.float .f64 (ofKey (PI))])∧Below w.heap.size w w':=by
 have he:=eqiv
 have hP:=PI_pos
 have q1:=ha.1;have q2:=ha.2;have q3:=hb.1;have q4:=hb.2;have q5:=hc.1;have q6:=hc.2;have q7:=hd.1;have q8:=hd.2
 have dD:decide (d=0)=false:=decide_eq_false (by omega)
 have dp:decide (0<c)=false:=decide_eq_false (by omega)
 clear h2
 go_enter Tryz.func117,Tryz.ntmps117
 go_wp2_with fail
 refine Hold.i222.go ?_;intro wl H;have F:=H.f;dsimp only [Fac] at F
 have k:=H.r;dsimp only [Reg] at k
 refine wp_region_below (by kernel_rfl) (by kernel_rfl) ?_
 repeat (go_big_quiet_step ((go_at_call 137;exact Calls.regrown_of (ivlzero_any _))))
 refine wpQuiet_nil (fun w1 hb => ?_);clear k
 replace H:=H.below hb;clear hb;replace F:=H.f;dsimp only [Fac] at F
 go_wp2_with fail
 have k:=H.r;dsimp only [Reg] at k
 refine wp_region_below (by kernel_rfl) (by kernel_rfl) ?_
 repeat (go_big_quiet_step ((go_at_call 137;exact Calls.regrown_of (ivlzero_any _))))
 refine wpQuiet_nil (fun w2 hb => ?_);clear k
 replace H:=H.below hb;clear hb;replace F:=H.f;dsimp only [Fac] at F
 go_wp2_with fail
 have k:=H.r;dsimp only [Reg] at k
 refine wp_region_below (by kernel_rfl) (by kernel_rfl) ?_
 repeat (go_big_quiet_step ((go_at_call 90;exact quiet_same (ivlinf_any _))))
 refine wpQuiet_nil (fun w3 hb => ?_);clear k
 replace H:=H.below hb;clear hb;replace F:=H.f;dsimp only [Fac] at F
 go_wp2_with (go_at_call 90;refine (ivlinf_any _).mono ?_;rintro e w' ⟨rfl,rfl⟩)
 have n1:=H.lt;dsimp only [Lts] at n1
 first|refine (((H.set 4 _).set 5 _).new2 _ _ _).goc ?_|refine (((H.set 4 _).set 5 _).new2 _ _ _).gol ?_|refine (((H.set 4 _).set 5 _).new2 _ _ _).go ?_|refine (((H.set 4 _).set 5 _).new2 _ _ _).gob ?_
 clear H F;intro wz H;simp only [upd,add,stc,World.size_setCell,World.size_alloc] at H;have F:=H.f;dsimp only [Fac] at F
 refine bodyPost_ret (v := .agg #[.float .f64 (ofKey (-PI)),.float .f64 (ofKey (PI))]) (by simp [results,Tryz.results117,go_sem,F]) rfl ⟨rfl,?_⟩
 exact H.B
set_option maxHeartbeats 1000000 in
theorem div_p3iPN (a b c d:Int) (ha:Rg a) (hb:Rg b) (hc:Rg c) (hd:Rg d) (h0:0≤c) (h1:0<d) (hAB:(decide (a=0)&&decide (b=0))=false) (h2:0<c) (h3:d=PI) (h4:0≤a) (h5:b≤0) (w:World) :
  Calls Tryz.prog 117 #[.agg #[.float .f64 (ofKey (a)),.float .f64 (ofKey (b))],.agg #[.float .f64 (ofKey (c)),.float .f64 (ofKey (d))]] w fun e w'=>e = .returned (.agg #[.float .f64 (ofKey (endK 9 a d false)),.float .f64 (ofKey (endK 9 b d true))])∧Below w.heap.size w w':=by
 have he:=eqiv
 have hP:=PI_pos
 have q1:=ha.1;have q2:=ha.2;have q3:=hb.1;have q4:=hb.2;have q5:=hc.1;have q6:=hc.2;have q7:=hd.1;have q8:=hd.2
 have dD:decide (d=0)=false:=decide_eq_false (by omega)
 have dI:decide (d<PI)=false:=decide_eq_false (by omega)
 have dp:decide (0<c)=true:=decide_eq_true (by omega)
 have EL:=Lib.hid (fun w=>ivlend_any 9 a d false ha hd (.inr (.inr ⟨rfl,by omega⟩)) w)
 generalize endK 9 a d false=x at *
 have EH:=Lib.hid (fun w=>ivlend_any 9 b d true hb hd (.inr (.inr ⟨rfl,by omega⟩)) w)
 generalize endK 9 b d true=y at *
 clear h3
 go_enter Tryz.func117,Tryz.ntmps117
 go_wp2_with fail
 refine Hold.i222.go ?_;intro wl H;have F:=H.f;dsimp only [Fac] at F
 have k:=H.r;dsimp only [Reg] at k
 refine wp_region_below (by kernel_rfl) (by kernel_rfl) ?_
 repeat (go_big_quiet_step ((go_at_call 137;exact Calls.regrown_of (ivlzero_any _))))
 refine wpQuiet_nil (fun w1 hb => ?_);clear k
 replace H:=H.below hb;clear hb;replace F:=H.f;dsimp only [Fac] at F
 go_wp2_with fail
 have k:=H.r;dsimp only [Reg] at k
 refine wp_region_below (by kernel_rfl) (by kernel_rfl) ?_
 repeat (go_big_quiet_step ((go_at_call 137;exact Calls.regrown_of (ivlzero_any _))))
 refine wpQuiet_nil (fun w2 hb => ?_);clear k
 replace H:=H.below hb;clear hb;replace F:=H.f;dsimp only [Fac] at F
 go_wp2_with fail
 have k:=H.r;dsimp only [Reg] at k
 refine wp_region_below (by kernel_rfl) (by kernel_rfl) ?_
 repeat (go_big_quiet_step ((go_at_call 90;exact quiet_same (ivlinf_any _))))
 refine wpQuiet_nil (fun w3 hb => ?_);clear k
 replace H:=H.below hb;clear hb;replace F:=H.f;dsimp only [Fac] at F
 go_wp2_with (go_at_call 90;refine (ivlinf_any _).mono ?_;rintro e w' ⟨rfl,rfl⟩)
 have n1:=H.lt;dsimp only [Lts] at n1
 refine (H.new2 _ _ _).goc ?_;clear H F;intro w4 H;dsimp only [add] at H;have F:=H.f;dsimp only [Fac] at F
 refine (EL.out _).mono ?_;rintro e w5 ⟨rfl,hb⟩
 replace H:=H.below hb;clear hb;replace F:=H.f;dsimp only [Fac] at F
 go_wp2_with fail
 refine (H.set 6 _).goc ?_;clear H F;intro w6 H;dsimp only [upd] at H;have F:=H.f;dsimp only [Fac] at F
 refine (EH.out _).mono ?_;rintro e w7 ⟨rfl,hb⟩
 replace H:=H.below hb;clear hb;replace F:=H.f;dsimp only [Fac] at F
 go_wp2_with fail
 first|refine (((H.set 7 _).set 4 _).set 5 _).goc ?_|refine (((H.set 7 _).set 4 _).set 5 _).gol ?_|refine (((H.set 7 _).set 4 _).set 5 _).go ?_|refine (((H.set 7 _).set 4 _).set 5 _).gob ?_
 clear H F;intro wz H;dsimp only [upd] at H;have F:=H.f;dsimp only [Fac] at F
 refine bodyPost_ret (v := .agg #[.float .f64 (ofKey (x)),.float .f64 (ofKey (y))]) (by simp [results,Tryz.results117,go_sem,F]) rfl ⟨rfl,?_⟩
 exact H.B
set_option maxHeartbeats 1000000 in
theorem div_p3iPP (a b c d:Int) (ha:Rg a) (hb:Rg b) (hc:Rg c) (hd:Rg d) (h0:0≤c) (h1:0<d) (hAB:(decide (a=0)&&decide (b=0))=false) (h2:0<c) (h3:d=PI) (h4:0≤a) (h5:0<b) (w:World) :
  Calls Tryz.prog 117 #[.agg #[.float .f64 (ofKey (a)),.float .f64 (ofKey (b))],.agg #[.float .f64 (ofKey (c)),.float .f64 (ofKey (d))]] w fun e w'=>e = .returned (.agg #[.float .f64 (ofKey (endK 9 a d false)),.float .f64 (ofKey (endK 9 b c true))])∧Below w.heap.size w w':=by
 have he:=eqiv
 have hP:=PI_pos
 have q1:=ha.1;have q2:=ha.2;have q3:=hb.1;have q4:=hb.2;have q5:=hc.1;have q6:=hc.2;have q7:=hd.1;have q8:=hd.2
 have dD:decide (d=0)=false:=decide_eq_false (by omega)
 have dI:decide (d<PI)=false:=decide_eq_false (by omega)
 have dp:decide (0<c)=true:=decide_eq_true (by omega)
 have EL:=Lib.hid (fun w=>ivlend_any 9 a d false ha hd (.inr (.inr ⟨rfl,by omega⟩)) w)
 generalize endK 9 a d false=x at *
 have EH:=Lib.hid (fun w=>ivlend_any 9 b c true hb hc (.inr (.inr ⟨rfl,by omega⟩)) w)
 generalize endK 9 b c true=y at *
 clear h3
 go_enter Tryz.func117,Tryz.ntmps117
 go_wp2_with fail
 refine Hold.i222.go ?_;intro wl H;have F:=H.f;dsimp only [Fac] at F
 have k:=H.r;dsimp only [Reg] at k
 refine wp_region_below (by kernel_rfl) (by kernel_rfl) ?_
 repeat (go_big_quiet_step ((go_at_call 137;exact Calls.regrown_of (ivlzero_any _))))
 refine wpQuiet_nil (fun w1 hb => ?_);clear k
 replace H:=H.below hb;clear hb;replace F:=H.f;dsimp only [Fac] at F
 go_wp2_with fail
 have k:=H.r;dsimp only [Reg] at k
 refine wp_region_below (by kernel_rfl) (by kernel_rfl) ?_
 repeat (go_big_quiet_step ((go_at_call 137;exact Calls.regrown_of (ivlzero_any _))))
 refine wpQuiet_nil (fun w2 hb => ?_);clear k
 replace H:=H.below hb;clear hb;replace F:=H.f;dsimp only [Fac] at F
 go_wp2_with fail
 have k:=H.r;dsimp only [Reg] at k
 refine wp_region_below (by kernel_rfl) (by kernel_rfl) ?_
 repeat (go_big_quiet_step ((go_at_call 90;exact quiet_same (ivlinf_any _))))
 refine wpQuiet_nil (fun w3 hb => ?_);clear k
 replace H:=H.below hb;clear hb;replace F:=H.f;dsimp only [Fac] at F
 go_wp2_with (go_at_call 90;refine (ivlinf_any _).mono ?_;rintro e w' ⟨rfl,rfl⟩)
 have n1:=H.lt;dsimp only [Lts] at n1
 refine (H.new2 _ _ _).goc ?_;clear H F;intro w4 H;dsimp only [add] at H;have F:=H.f;dsimp only [Fac] at F
 refine (EL.out _).mono ?_;rintro e w5 ⟨rfl,hb⟩
 replace H:=H.below hb;clear hb;replace F:=H.f;dsimp only [Fac] at F
 go_wp2_with fail
 refine (H.set 6 _).goc ?_;clear H F;intro w6 H;dsimp only [upd] at H;have F:=H.f;dsimp only [Fac] at F
 refine (EH.out _).mono ?_;rintro e w7 ⟨rfl,hb⟩
 replace H:=H.below hb;clear hb;replace F:=H.f;dsimp only [Fac] at F
 go_wp2_with fail
 first|refine (((H.set 7 _).set 4 _).set 5 _).goc ?_|refine (((H.set 7 _).set 4 _).set 5 _).gol ?_|refine (((H.set 7 _).set 4 _).set 5 _).go ?_|refine (((H.set 7 _).set 4 _).set 5 _).gob ?_
 clear H F;intro wz H;dsimp only [upd] at H;have F:=H.f;dsimp only [Fac] at F
 refine bodyPost_ret (v := .agg #[.float .f64 (ofKey (x)),.float .f64 (ofKey (y))]) (by simp [results,Tryz.results117,go_sem,F]) rfl ⟨rfl,?_⟩
 exact H.B
set_option maxHeartbeats 1000000 in
theorem div_p3iNN (a b c d:Int) (ha:Rg a) (hb:Rg b) (hc:Rg c) (hd:Rg d) (h0:0≤c) (h1:0<d) (hAB:(decide (a=0)&&decide (b=0))=false) (h2:0<c) (h3:d=PI) (h4:a<0) (h5:b≤0) (w:World) :
  Calls Tryz.prog 117 #[.agg #[.float .f64 (ofKey (a)),.float .f64 (ofKey (b))],.agg #[.float .f64 (ofKey (c)),.float .f64 (ofKey (d))]] w fun e w'=>e = .returned (.agg #[.float .f64 (ofKey (endK 9 a c false)),.float .f64 (ofKey (endK 9 b d true))])∧Below w.heap.size w w':=by
 have he:=eqiv
 have hP:=PI_pos
 have q1:=ha.1;have q2:=ha.2;have q3:=hb.1;have q4:=hb.2;have q5:=hc.1;have q6:=hc.2;have q7:=hd.1;have q8:=hd.2
 have dD:decide (d=0)=false:=decide_eq_false (by omega)
 have dI:decide (d<PI)=false:=decide_eq_false (by omega)
 have dp:decide (0<c)=true:=decide_eq_true (by omega)
 have EL:=Lib.hid (fun w=>ivlend_any 9 a c false ha hc (.inr (.inr ⟨rfl,by omega⟩)) w)
 generalize endK 9 a c false=x at *
 have EH:=Lib.hid (fun w=>ivlend_any 9 b d true hb hd (.inr (.inr ⟨rfl,by omega⟩)) w)
 generalize endK 9 b d true=y at *
 clear h3
 go_enter Tryz.func117,Tryz.ntmps117
 go_wp2_with fail
 refine Hold.i222.go ?_;intro wl H;have F:=H.f;dsimp only [Fac] at F
 have k:=H.r;dsimp only [Reg] at k
 refine wp_region_below (by kernel_rfl) (by kernel_rfl) ?_
 repeat (go_big_quiet_step ((go_at_call 137;exact Calls.regrown_of (ivlzero_any _))))
 refine wpQuiet_nil (fun w1 hb => ?_);clear k
 replace H:=H.below hb;clear hb;replace F:=H.f;dsimp only [Fac] at F
 go_wp2_with fail
 have k:=H.r;dsimp only [Reg] at k
 refine wp_region_below (by kernel_rfl) (by kernel_rfl) ?_
 repeat (go_big_quiet_step ((go_at_call 137;exact Calls.regrown_of (ivlzero_any _))))
 refine wpQuiet_nil (fun w2 hb => ?_);clear k
 replace H:=H.below hb;clear hb;replace F:=H.f;dsimp only [Fac] at F
 go_wp2_with fail
 have k:=H.r;dsimp only [Reg] at k
 refine wp_region_below (by kernel_rfl) (by kernel_rfl) ?_
 repeat (go_big_quiet_step ((go_at_call 90;exact quiet_same (ivlinf_any _))))
 refine wpQuiet_nil (fun w3 hb => ?_);clear k
 replace H:=H.below hb;clear hb;replace F:=H.f;dsimp only [Fac] at F
 go_wp2_with (go_at_call 90;refine (ivlinf_any _).mono ?_;rintro e w' ⟨rfl,rfl⟩)
 have n1:=H.lt;dsimp only [Lts] at n1
 refine (H.new2 _ _ _).goc ?_;clear H F;intro w4 H;dsimp only [add] at H;have F:=H.f;dsimp only [Fac] at F
 refine (EL.out _).mono ?_;rintro e w5 ⟨rfl,hb⟩
 replace H:=H.below hb;clear hb;replace F:=H.f;dsimp only [Fac] at F
 go_wp2_with fail
 refine (H.set 6 _).goc ?_;clear H F;intro w6 H;dsimp only [upd] at H;have F:=H.f;dsimp only [Fac] at F
 refine (EH.out _).mono ?_;rintro e w7 ⟨rfl,hb⟩
 replace H:=H.below hb;clear hb;replace F:=H.f;dsimp only [Fac] at F
 go_wp2_with fail
 first|refine (((H.set 7 _).set 4 _).set 5 _).goc ?_|refine (((H.set 7 _).set 4 _).set 5 _).gol ?_|refine (((H.set 7 _).set 4 _).set 5 _).go ?_|refine (((H.set 7 _).set 4 _).set 5 _).gob ?_
 clear H F;intro wz H;dsimp only [upd] at H;have F:=H.f;dsimp only [Fac] at F
 refine bodyPost_ret (v := .agg #[.float .f64 (ofKey (x)),.float .f64 (ofKey (y))]) (by simp [results,Tryz.results117,go_sem,F]) rfl ⟨rfl,?_⟩
 exact H.B
set_option maxHeartbeats 1000000 in
theorem div_p3iNP (a b c d:Int) (ha:Rg a) (hb:Rg b) (hc:Rg c) (hd:Rg d) (h0:0≤c) (h1:0<d) (hAB:(decide (a=0)&&decide (b=0))=false) (h2:0<c) (h3:d=PI) (h4:a<0) (h5:0<b) (w:World) :
  Calls Tryz.prog 117 #[.agg #[.float .f64 (ofKey (a)),.float .f64 (ofKey (b))],.agg #[.float .f64 (ofKey (c)),.float .f64 (ofKey (d))]] w fun e w'=>e = .returned (.agg #[.float .f64 (ofKey (endK 9 a c false)),.float .f64 (ofKey (endK 9 b c true))])∧Below w.heap.size w w':=by
 have he:=eqiv
 have hP:=PI_pos
 have q1:=ha.1;have q2:=ha.2;have q3:=hb.1;have q4:=hb.2;have q5:=hc.1;have q6:=hc.2;have q7:=hd.1;have q8:=hd.2
 have dD:decide (d=0)=false:=decide_eq_false (by omega)
 have dI:decide (d<PI)=false:=decide_eq_false (by omega)
 have dp:decide (0<c)=true:=decide_eq_true (by omega)
 have EL:=Lib.hid (fun w=>ivlend_any 9 a c false ha hc (.inr (.inr ⟨rfl,by omega⟩)) w)
 generalize endK 9 a c false=x at *
 have EH:=Lib.hid (fun w=>ivlend_any 9 b c true hb hc (.inr (.inr ⟨rfl,by omega⟩)) w)
 generalize endK 9 b c true=y at *
 clear h3
 go_enter Tryz.func117,Tryz.ntmps117
 go_wp2_with fail
 refine Hold.i222.go ?_;intro wl H;have F:=H.f;dsimp only [Fac] at F
 have k:=H.r;dsimp only [Reg] at k
 refine wp_region_below (by kernel_rfl) (by kernel_rfl) ?_
 repeat (go_big_quiet_step ((go_at_call 137;exact Calls.regrown_of (ivlzero_any _))))
 refine wpQuiet_nil (fun w1 hb => ?_);clear k
 replace H:=H.below hb;clear hb;replace F:=H.f;dsimp only [Fac] at F
 go_wp2_with fail
 have k:=H.r;dsimp only [Reg] at k
 refine wp_region_below (by kernel_rfl) (by kernel_rfl) ?_
 repeat (go_big_quiet_step ((go_at_call 137;exact Calls.regrown_of (ivlzero_any _))))
 refine wpQuiet_nil (fun w2 hb => ?_);clear k
 replace H:=H.below hb;clear hb;replace F:=H.f;dsimp only [Fac] at F
 go_wp2_with fail
 have k:=H.r;dsimp only [Reg] at k
 refine wp_region_below (by kernel_rfl) (by kernel_rfl) ?_
 repeat (go_big_quiet_step ((go_at_call 90;exact quiet_same (ivlinf_any _))))
 refine wpQuiet_nil (fun w3 hb => ?_);clear k
 replace H:=H.below hb;clear hb;replace F:=H.f;dsimp only [Fac] at F
 go_wp2_with (go_at_call 90;refine (ivlinf_any _).mono ?_;rintro e w' ⟨rfl,rfl⟩)
 have n1:=H.lt;dsimp only [Lts] at n1
 refine (H.new2 _ _ _).goc ?_;clear H F;intro w4 H;dsimp only [add] at H;have F:=H.f;dsimp only [Fac] at F
 refine (EL.out _).mono ?_;rintro e w5 ⟨rfl,hb⟩
 replace H:=H.below hb;clear hb;replace F:=H.f;dsimp only [Fac] at F
 go_wp2_with fail
 refine (H.set 6 _).goc ?_;clear H F;intro w6 H;dsimp only [upd] at H;have F:=H.f;dsimp only [Fac] at F
 refine (EH.out _).mono ?_;rintro e w7 ⟨rfl,hb⟩
 replace H:=H.below hb;clear hb;replace F:=H.f;dsimp only [Fac] at F
 go_wp2_with fail
 first|refine (((H.set 7 _).set 4 _).set 5 _).goc ?_|refine (((H.set 7 _).set 4 _).set 5 _).gol ?_|refine (((H.set 7 _).set 4 _).set 5 _).go ?_|refine (((H.set 7 _).set 4 _).set 5 _).gob ?_
 clear H F;intro wz H;dsimp only [upd] at H;have F:=H.f;dsimp only [Fac] at F
 refine bodyPost_ret (v := .agg #[.float .f64 (ofKey (x)),.float .f64 (ofKey (y))]) (by simp [results,Tryz.results117,go_sem,F]) rfl ⟨rfl,?_⟩
 exact H.B
theorem div_pos (a b c d:Int) (ha:Rg a) (hb:Rg b) (hc:Rg c) (hd:Rg d) (h0:0≤c) (h1:0<d) (w:World) :
  Calls Tryz.prog 117 #[.agg #[.float .f64 (ofKey (a)),.float .f64 (ofKey (b))],.agg #[.float .f64 (ofKey (c)),.float .f64 (ofKey (d))]] w fun e w'=>e = .returned (.agg #[.float .f64 (ofKey (divPLo a b c d)),.float .f64 (ofKey (divPHi a b c d))])∧Below w.heap.size w w':=by
 have q8:=hd.2
 by_cases hz:a=0∧b=0
 ·rw [show divPLo a b c d=0 by unfold divPLo;rw [if_pos hz],show divPHi a b c d=0 by unfold divPHi;rw [if_pos hz]]
  exact div_p1 a b c d ha hb hc hd h0 h1 (decide_eq_true hz.1) (decide_eq_true hz.2) w
 ·have hAB:(decide (a=0)&&decide (b=0))=false:=by rw [←Bool.decide_and];exact decide_eq_false hz
  unfold divPLo divPHi
  rw [if_neg hz,if_neg hz]
  by_cases h2:0<c∧d<PI
  ·rw [if_pos h2,if_pos h2]
   exact div_p2 a b c d ha hb hc hd h0 h1 hAB h2.1 h2.2 w
  ·rw [if_neg h2,if_neg h2]
   by_cases h3:0<c
   ·rw [if_pos h3,if_pos h3]
    by_cases h4:0≤a
    ·rw [if_pos h4]
     by_cases h5:b≤0
     ·rw [if_pos h5];exact div_p3iPN a b c d ha hb hc hd h0 h1 hAB h3 (by omega) h4 h5 w
     ·rw [if_neg h5];exact div_p3iPP a b c d ha hb hc hd h0 h1 hAB h3 (by omega) h4 (by omega) w
    ·rw [if_neg h4]
     by_cases h5:b≤0
     ·rw [if_pos h5];exact div_p3iNN a b c d ha hb hc hd h0 h1 hAB h3 (by omega) (by omega) h5 w
     ·rw [if_neg h5];exact div_p3iNP a b c d ha hb hc hd h0 h1 hAB h3 (by omega) (by omega) (by omega) w
   ·rw [if_neg h3,if_neg h3]
    by_cases h4:0≤a
    ·rw [if_pos h4]
     by_cases h5:b≤0
     ·rw [if_pos h5];exact div_p3zPN a b c d ha hb hc hd h0 h1 hAB (by omega) h4 h5 w
     ·rw [if_neg h5];exact div_p3zPP a b c d ha hb hc hd h0 h1 hAB (by omega) h4 (by omega) w
    ·rw [if_neg h4]
     by_cases h5:b≤0
     ·rw [if_pos h5];exact div_p3zNN a b c d ha hb hc hd h0 h1 hAB (by omega) (by omega) h5 w
     ·rw [if_neg h5];exact div_p3zNP a b c d ha hb hc hd h0 h1 hAB (by omega) (by omega) (by omega) w
set_option maxHeartbeats 1000000 in
theorem div_1 (a b c d:Int) (ha:Rg a) (hb:Rg b) (hc:Rg c) (hd:Rg d) (dC:decide (c=0)=true) (dD:decide (d=0)=true) (w:World) :
  Calls Tryz.prog 117 #[.agg #[.float .f64 (ofKey (a)),.float .f64 (ofKey (b))],.agg #[.float .f64 (ofKey (c)),.float .f64 (ofKey (d))]] w fun e w'=>e = .returned (.agg #[.float .f64 (ofKey (PI)),.float .f64 (ofKey (-PI))])∧Below w.heap.size w w':=by
 have he:=eqiv
 have hP:=PI_pos
 have q1:=ha.1;have q2:=ha.2;have q3:=hb.1;have q4:=hb.2;have q5:=hc.1;have q6:=hc.2;have q7:=hd.1;have q8:=hd.2
 go_enter Tryz.func117,Tryz.ntmps117
 go_wp2_with fail
 refine Hold.i222.go ?_;intro wl H;have F:=H.f;dsimp only [Fac] at F
 have k:=H.r;dsimp only [Reg] at k
 refine wp_region_below (by kernel_rfl) (by kernel_rfl) ?_
 repeat (go_big_quiet_step ((go_at_call 137;exact Calls.regrown_of (ivlzero_any _))))
 refine wpQuiet_nil (fun w1 hb => ?_);clear k
 replace H:=H.below hb;clear hb;replace F:=H.f;dsimp only [Fac] at F
 go_wp2_with fail
 refine (ivlempty_any _).mono ?_;rintro e w3 ⟨rfl,hb⟩
 replace H:=H.below hb;clear hb;replace F:=H.f;dsimp only [Fac] at F
 go_wp2_with fail
 refine ((H.set 4 _).set 5 _).gob ?_;clear H F;intro wz H;dsimp only [upd] at H;have F:=H.f;dsimp only [Fac] at F
 refine bodyPost_ret (by simp [results,Tryz.results117,go_sem,F]) rfl ⟨rfl,?_⟩;exact H.B
set_option maxHeartbeats 1000000 in
theorem div_2 (a b c d:Int) (ha:Rg a) (hb:Rg b) (hc:Rg c) (hd:Rg d) (hCD:(decide (c=0)&&decide (d=0))=false) (dA:decide (a=0)=true) (dB:decide (b=0)=true) (w:World) :
  Calls Tryz.prog 117 #[.agg #[.float .f64 (ofKey (a)),.float .f64 (ofKey (b))],.agg #[.float .f64 (ofKey (c)),.float .f64 (ofKey (d))]] w fun e w'=>e = .returned (.agg #[.float .f64 (ofKey (0)),.float .f64 (ofKey (0))])∧Below w.heap.size w w':=by
 have he:=eqiv
 have hP:=PI_pos
 have q1:=ha.1;have q2:=ha.2;have q3:=hb.1;have q4:=hb.2;have q5:=hc.1;have q6:=hc.2;have q7:=hd.1;have q8:=hd.2
 rw [←zero_ofKey]
 go_enter Tryz.func117,Tryz.ntmps117
 go_wp2_with fail
 refine Hold.i222.go ?_;intro wl H;have F:=H.f;dsimp only [Fac] at F
 have k:=H.r;dsimp only [Reg] at k
 refine wp_region_below (by kernel_rfl) (by kernel_rfl) ?_
 repeat (go_big_quiet_step ((go_at_call 137;exact Calls.regrown_of (ivlzero_any _))))
 refine wpQuiet_nil (fun w1 hb => ?_);clear k
 replace H:=H.below hb;clear hb;replace F:=H.f;dsimp only [Fac] at F
 go_wp2_with fail
 have k:=H.r;dsimp only [Reg] at k
 refine wp_region_below (by kernel_rfl) (by kernel_rfl) ?_
 repeat (go_big_quiet_step ((go_at_call 137;exact Calls.regrown_of (ivlzero_any _))))
 refine wpQuiet_nil (fun w2 hb => ?_);clear k
 replace H:=H.below hb;clear hb;replace F:=H.f;dsimp only [Fac] at F
 go_wp2_with fail
 refine (ivlzero_any _).mono ?_;rintro e w3 ⟨rfl,hb⟩
 replace H:=H.below hb;clear hb;replace F:=H.f;dsimp only [Fac] at F
 go_wp2_with fail
 refine ((H.set 4 _).set 5 _).gob ?_;clear H F;intro wz H;dsimp only [upd] at H;have F:=H.f;dsimp only [Fac] at F
 refine bodyPost_ret (by simp [results,Tryz.results117,go_sem,F]) rfl ⟨rfl,?_⟩;exact H.B
set_option maxHeartbeats 1000000 in
theorem div_3 (a b c d:Int) (ha:Rg a) (hb:Rg b) (hc:Rg c) (hd:Rg d) (hCD:(decide (c=0)&&decide (d=0))=false) (hAB:(decide (a=0)&&decide (b=0))=false) (h2:c<0) (h3:0<d) (w:World) :
  Calls Tryz.prog 117 #[.agg #[.float .f64 (ofKey (a)),.float .f64 (ofKey (b))],.agg #[.float .f64 (ofKey (c)),.float .f64 (ofKey (d))]] w fun e w'=>e = .returned (.agg #[.float .f64 (ofKey (-PI)),.float .f64 (ofKey (PI))])∧Below w.heap.size w w':=by
 have he:=eqiv
 have hP:=PI_pos
 have q1:=ha.1;have q2:=ha.2;have q3:=hb.1;have q4:=hb.2;have q5:=hc.1;have q6:=hc.2;have q7:=hd.1;have q8:=hd.2
 go_enter Tryz.func117,Tryz.ntmps117
 go_wp2_with fail
 refine Hold.i222.go ?_;intro wl H;have F:=H.f;dsimp only [Fac] at F
 have k:=H.r;dsimp only [Reg] at k
 refine wp_region_below (by kernel_rfl) (by kernel_rfl) ?_
 repeat (go_big_quiet_step ((go_at_call 137;exact Calls.regrown_of (ivlzero_any _))))
 refine wpQuiet_nil (fun w1 hb => ?_);clear k
 replace H:=H.below hb;clear hb;replace F:=H.f;dsimp only [Fac] at F
 go_wp2_with fail
 have k:=H.r;dsimp only [Reg] at k
 refine wp_region_below (by kernel_rfl) (by kernel_rfl) ?_
 repeat (go_big_quiet_step ((go_at_call 137;exact Calls.regrown_of (ivlzero_any _))))
 refine wpQuiet_nil (fun w2 hb => ?_);clear k
 replace H:=H.below hb;clear hb;replace F:=H.f;dsimp only [Fac] at F
 go_wp2_with fail
 refine (ivlwhole_any _).mono ?_;rintro e w3 ⟨rfl,hb⟩
 replace H:=H.below hb;clear hb;replace F:=H.f;dsimp only [Fac] at F
 go_wp2_with fail
 refine ((H.set 4 _).set 5 _).gob ?_;clear H F;intro wz H;dsimp only [upd] at H;have F:=H.f;dsimp only [Fac] at F
 refine bodyPost_ret (by simp [results,Tryz.results117,go_sem,F]) rfl ⟨rfl,?_⟩;exact H.B
set_option maxHeartbeats 1000000 in
theorem div_4 (a b c d:Int) (ha:Rg a) (hb:Rg b) (hc:Rg c) (hd:Rg d) (hCD:(decide (c=0)&&decide (d=0))=false) (hAB:(decide (a=0)&&decide (b=0))=false) (h1:c<0) (h2:d≤0) (w:World) :
  Calls Tryz.prog 117 #[.agg #[.float .f64 (ofKey (a)),.float .f64 (ofKey (b))],.agg #[.float .f64 (ofKey (c)),.float .f64 (ofKey (d))]] w fun e w'=>e = .returned (.agg #[.float .f64 (ofKey (divPLo (-b) (-a) (-d) (-c))),.float .f64 (ofKey (divPHi (-b) (-a) (-d) (-c)))])∧Below w.heap.size w w':=by
 have he:=eqiv
 have hP:=PI_pos
 have q1:=ha.1;have q2:=ha.2;have q3:=hb.1;have q4:=hb.2;have q5:=hc.1;have q6:=hc.2;have q7:=hd.1;have q8:=hd.2
 have NA:=Lib.hid (fun w=>ivlneg_any a b ha hb w)
 have NB:=Lib.hid (fun w=>ivlneg_any c d hc hd w)
 have DV:=Lib.hid (fun w=>div_pos (-b) (-a) (-d) (-c) (Rg_neg hb) (Rg_neg ha) (Rg_neg hd) (Rg_neg hc) (by omega) (by omega) w)
 generalize divPLo (-b) (-a) (-d) (-c)=x at *
 generalize divPHi (-b) (-a) (-d) (-c)=y at *
 go_enter Tryz.func117,Tryz.ntmps117
 go_wp2_with fail
 refine Hold.i222.go ?_;intro wl H;have F:=H.f;dsimp only [Fac] at F
 have k:=H.r;dsimp only [Reg] at k
 refine wp_region_below (by kernel_rfl) (by kernel_rfl) ?_
 repeat (go_big_quiet_step ((go_at_call 137;exact Calls.regrown_of (ivlzero_any _))))
 refine wpQuiet_nil (fun w1 hb => ?_);clear k
 replace H:=H.below hb;clear hb;replace F:=H.f;dsimp only [Fac] at F
 go_wp2_with fail
 have k:=H.r;dsimp only [Reg] at k
 refine wp_region_below (by kernel_rfl) (by kernel_rfl) ?_
 repeat (go_big_quiet_step ((go_at_call 137;exact Calls.regrown_of (ivlzero_any _))))
 refine wpQuiet_nil (fun w2 hb => ?_);clear k
 replace H:=H.below hb;clear hb;replace F:=H.f;dsimp only [Fac] at F
 go_wp2_with fail
 have k:=H.r;dsimp only [Reg] at k
 refine wp_region_below_tail 5 (by kernel_rfl) (by kernel_rfl) ?_
 simp only [List.take_succ_cons,List.take_zero,List.drop_succ_cons,List.drop_zero]
 repeat (go_big_quiet_step ((first|(with_reducible exact Calls.regrown_of (NA.out _))|(with_reducible exact Calls.regrown_of (NB.out _))|(with_reducible exact Calls.regrown_of (DV.out _)))))
 refine wpQuiet_nil (fun w3 hb => ?_);clear k
 replace H:=H.below hb;clear hb;replace F:=H.f;dsimp only [Fac] at F
 go_wp2_with fail
 refine ((H.set 4 _).set 5 _).gob ?_;clear H F;intro wz H;dsimp only [upd] at H;have F:=H.f;dsimp only [Fac] at F
 refine bodyPost_ret (by simp [results,Tryz.results117,go_sem,F]) rfl ⟨rfl,?_⟩;exact H.B
theorem ivldiv_any (a b c d:Int) (ha:Rg a) (hb:Rg b) (hc:Rg c) (hd:Rg d) (hcd:c≤d) (w:World) :
  Calls Tryz.prog 117 #[.agg #[.float .f64 (ofKey (a)),.float .f64 (ofKey (b))],.agg #[.float .f64 (ofKey (c)),.float .f64 (ofKey (d))]] w fun e w'=>e = .returned (.agg #[.float .f64 (ofKey (divLo a b c d)),.float .f64 (ofKey (divHi a b c d))])∧Below w.heap.size w w':=by
 unfold divLo divHi
 by_cases h1:c=0∧d=0
 ·rw [if_pos h1,if_pos h1]
  exact div_1 a b c d ha hb hc hd (decide_eq_true h1.1) (decide_eq_true h1.2) w
 ·rw [if_neg h1,if_neg h1]
  have hCD:(decide (c=0)&&decide (d=0))=false:=by rw [←Bool.decide_and];exact decide_eq_false h1
  by_cases h2:a=0∧b=0
  ·rw [if_pos h2,if_pos h2]
   exact div_2 a b c d ha hb hc hd hCD (decide_eq_true h2.1) (decide_eq_true h2.2) w
  ·rw [if_neg h2,if_neg h2]
   have hAB:(decide (a=0)&&decide (b=0))=false:=by rw [←Bool.decide_and];exact decide_eq_false h2
   by_cases h3:c<0∧0<d
   ·rw [if_pos h3,if_pos h3]
    exact div_3 a b c d ha hb hc hd hCD hAB h3.1 h3.2 w
   ·rw [if_neg h3,if_neg h3]
    by_cases h4:d≤0
    ·rw [if_pos h4,if_pos h4]
     exact div_4 a b c d ha hb hc hd hCD hAB (by omega) h4 w
    ·rw [if_neg h4,if_neg h4]
     exact div_pos a b c d ha hb hc hd (by omega) (by omega) w
theorem find2_any (c d:Int) (hc:Rg c) (hd:Rg d) (hcd:c≤d) (w:World) :
  Calls Tryz.prog 116 #[.agg #[.float .f64 (ofKey (c)),.float .f64 (ofKey (d))]] w fun e w'=>e = .returned (.agg #[.float .f64 (ofKey (divLo 4607182418800017408 4607182418800017408 c d)),.float .f64 (ofKey (divHi 4607182418800017408 4607182418800017408 c d))])∧Below w.heap.size w w':=by
 have r1:Rg 4607182418800017408:=⟨by decide,by decide⟩
 have DV:=Lib.hid (fun w=>ivldiv_any 4607182418800017408 4607182418800017408 c d r1 r1 hc hd hcd w)
 generalize divLo 4607182418800017408 4607182418800017408 c d=x at *
 generalize divHi 4607182418800017408 4607182418800017408 c d=y at *
 have e1:ofKey 4607182418800017408=4607182418800017408:=by decide
 rw [e1] at DV
 clear hcd
 go_enter Tryz.func116,Tryz.ntmps116
 go_wp2_with fail
 refine (DV.out _).mono ?_;rintro e w1 ⟨rfl,hb⟩
 have H:=Hold.i22.below hb;clear hb;have F:=H.f;dsimp only [Fac] at F
 go_wp2_with fail
 refine ((H.set 2 _).set 3 _).gob ?_;clear H F;intro wz H;dsimp only [upd] at H;have F:=H.f;dsimp only [Fac] at F
 refine bodyPost_ret (by simp [results,Tryz.results116,go_sem,F]) rfl ⟨rfl,?_⟩;exact H.B
end Go.Proofs.YteephgpefhodnaaGreat
namespace Go.Proofs.YteephgpefhodnaaGreat
open Go.RowKit Go.Sort Go.Fl
set_option linter.unusedSimpArgs false
set_option linter.unusedVariables false
theorem read_num {k:Int} (h:Rg k):(∃ s m p,FloatKind.f64.decode (ofKey k) = .number s m p)∨(∃ s,FloatKind.f64.decode (ofKey k) = .infinity s):=by
 have h1:=h.1;have h2:=h.2
 by_cases a:k=PI
 ·subst a;exact .inr ⟨_,read_PI⟩
 ·by_cases b:k = -PI
  ·subst b;exact .inr ⟨_,read_MI⟩
  ·exact .inl ⟨_,_,_,read_fin (fin_ofKey (k:=k) (by omega) (by omega))⟩
theorem run_floor (k:Int) (h:Rg k) (w:World):(callFunc 125 #[.float .f64 (ofKey k)]).run Tryz.prog w = .ok (.value (.float .f64 (ofKey (floorK k)))) w:=by
 rw [←(floorK_all h).1]
 rw [run_callFunc_extern Tryz.func125 (by kernel_rfl) (by kernel_rfl) (by kernel_rfl) (by kernel_rfl : Extern.find _ = some (Extern.MathFloor.toIntegral "math.archFloor" .down))]
 have e : Extern.MathFloor.toIntegral "math.archFloor" .down #[.float .f64 (ofKey k)] = (match FloatKind.f64.decode (ofKey k) with
  | .nan s t =>
   if FloatKind.f64.format.quiet t=t then pure (.float .f64 (ofKey k)) else do
   let kept ← choose (.extern "math.Floor,Ceil,Trunc,RoundToEven.signallingNaN kept" 2)
   pure (.float .f64 (if kept==1 then (ofKey k) else FloatKind.f64.encode (.nan s (FloatKind.f64.format.quiet t))))
  | d=>pure (.float .f64 (FloatKind.f64.encode (d.integral .down)))):=rfl
 have e2:floorW (ofKey k)=FloatKind.f64.encode ((FloatKind.f64.decode (ofKey k)).integral .down):=rfl
 rw [e,e2]
 rcases read_num h with ⟨s,m,p,h⟩|⟨s,h⟩<;>rw [h]<;>rfl
theorem floor_any (k:Int) (h:Rg k) (w:World) :
  Calls Tryz.prog 89 #[.float .f64 (ofKey (k))] w fun e w'=>e = .returned (.float .f64 (ofKey (floorK k)))∧w=w':=by
 have hr:=run_floor k h
 go_enter Tryz.func89,Tryz.ntmps89
 go_wp2
 go_ret
 exact ⟨rfl,rfl⟩
theorem find1_any (a b:Int) (ha:Rg a) (hb:Rg b) (w:World) :
  Calls Tryz.prog 115 #[.agg #[.float .f64 (ofKey (a)),.float .f64 (ofKey (b))]] w fun e w'=>e = .returned (.agg #[.float .f64 (ofKey (floorK a)),.float .f64 (ofKey (floorK b))])∧Below w.heap.size w w':=by
 have FA:=Lib.hid (fun w=>floor_any a ha w)
 have FB:=Lib.hid (fun w=>floor_any b hb w)
 generalize floorK a=x at *
 generalize floorK b=y at *
 go_enter Tryz.func115,Tryz.ntmps115
 go_wp2_with fail
 have A0:At (World.alloc (World.alloc w (.cells #[.float .f64 (ofKey (a)),.float .f64 (ofKey (b))] 39)) (.cells #[.float .f64 0,.float .f64 0] 39)) w.heap.size 0 (.float .f64 (ofKey (a))):=⟨by simp [go_sem],by simp [go_sem]⟩
 have A1:At (World.alloc (World.alloc w (.cells #[.float .f64 (ofKey (a)),.float .f64 (ofKey (b))] 39)) (.cells #[.float .f64 0,.float .f64 0] 39)) w.heap.size 1 (.float .f64 (ofKey (b))):=⟨by simp [go_sem],by simp [go_sem]⟩
 have A2:At (World.alloc (World.alloc w (.cells #[.float .f64 (ofKey (a)),.float .f64 (ofKey (b))] 39)) (.cells #[.float .f64 0,.float .f64 0] 39)) (w.heap.size+1) 0 (.float .f64 0):=⟨by simp [go_sem],by simp [go_sem]⟩
 have A3:At (World.alloc (World.alloc w (.cells #[.float .f64 (ofKey (a)),.float .f64 (ofKey (b))] 39)) (.cells #[.float .f64 0,.float .f64 0] 39)) (w.heap.size+1) 1 (.float .f64 0):=⟨by simp [go_sem],by simp [go_sem]⟩
 have k0:=cell_regrown A0.1
 have k1:=cell_regrown A1.1
 refine wp_region_below_tail 7 (by kernel_rfl) (by kernel_rfl) ?_
 simp only [List.take_succ_cons,List.take_zero,List.drop_succ_cons,List.drop_zero]
 repeat (go_big_quiet_step ((first|(with_reducible exact quiet_same (FA.out _))|(with_reducible exact quiet_same (FB.out _)))))
 refine wpQuiet_nil (fun w1 hbw1 => ?_)
 replace A2:=At.below A2 hbw1
 replace A3:=At.below A3 hbw1
 have F2:=A2.1;have G2:=A2.2;have F3:=A3.1;have G3:=A3.2
 have B:=below_alloc (below_alloc hbw1)
 clear k0 k1 hbw1
 go_wp2_with fail
 refine bodyPost_ret (v := .agg #[.float .f64 (ofKey (x)),.float .f64 (ofKey (y))]) (by simp [results,Tryz.results115,go_sem,F2,G2,F3,G3]) rfl ⟨rfl,?_⟩
 go_grown
@[go_sem] theorem run_store_func {P:Program} {w:World} {a:Addr} {m:Mode} (f:Fn) (x c:Array Value):(store a (.func f x c) m).run P w=stored P w a (.func f x c) m:=run_store P w a _ m rfl
@[go_sem] theorem run_store_nilfunc {P:Program} {w:World} {a:Addr} {m:Mode}:(store a .nilFunc m).run P w=stored P w a .nilFunc m:=run_store P w a _ m rfl
theorem neq_one (f:FuncId) (w:World):(binOp .neq 72 (.func (.func f) #[] #[]) .nilFunc).run Tryz.prog w = .ok (.bool true) w:=by
 kernel_rfl
theorem neq_two (f:FuncId) (w:World):(binOp .neq 46 (.func (.func f) #[] #[]) .nilFunc).run Tryz.prog w = .ok (.bool true) w:=by
 kernel_rfl
theorem neq_one0 (w:World):(binOp .neq 72 .nilFunc .nilFunc).run Tryz.prog w = .ok (.bool false) w:=by
 kernel_rfl
theorem neq_two0 (w:World):(binOp .neq 46 .nilFunc .nilFunc).run Tryz.prog w = .ok (.bool false) w:=by
 kernel_rfl
def rowOne (f:FuncId):Value := .agg #[.func (.func f) #[] #[],.nilFunc]
def rowTwo (f:FuncId):Value := .agg #[.nilFunc,.func (.func f) #[] #[]]
theorem find_0 (w:World):Calls Tryz.prog 83 #[.int .i64 0] w fun e w'=>e = .returned (rowOne 111)∧Below w.heap.size w w':=by
 go_enter Tryz.func83,Tryz.ntmps83
 go_wp2
 go_returns
 exact ⟨rfl,by go_grown⟩
theorem enter_0:Enters Tryz.prog 111:=enters_of Tryz.func111 (by kernel_rfl) rfl
theorem find_1 (w:World):Calls Tryz.prog 83 #[.int .i64 1] w fun e w'=>e = .returned (rowOne 112)∧Below w.heap.size w w':=by
 go_enter Tryz.func83,Tryz.ntmps83
 go_wp2
 go_returns
 exact ⟨rfl,by go_grown⟩
theorem enter_1:Enters Tryz.prog 112:=enters_of Tryz.func112 (by kernel_rfl) rfl
theorem find_2 (w:World):Calls Tryz.prog 83 #[.int .i64 2] w fun e w'=>e = .returned (rowOne 113)∧Below w.heap.size w w':=by
 go_enter Tryz.func83,Tryz.ntmps83
 go_wp2
 go_returns
 exact ⟨rfl,by go_grown⟩
theorem enter_2:Enters Tryz.prog 113:=enters_of Tryz.func113 (by kernel_rfl) rfl
theorem find_3 (w:World):Calls Tryz.prog 83 #[.int .i64 3] w fun e w'=>e = .returned (rowOne 114)∧Below w.heap.size w w':=by
 go_enter Tryz.func83,Tryz.ntmps83
 go_wp2
 go_returns
 exact ⟨rfl,by go_grown⟩
theorem enter_3:Enters Tryz.prog 114:=enters_of Tryz.func114 (by kernel_rfl) rfl
theorem find_4 (w:World):Calls Tryz.prog 83 #[.int .i64 4] w fun e w'=>e = .returned (rowOne 115)∧Below w.heap.size w w':=by
 go_enter Tryz.func83,Tryz.ntmps83
 go_wp2
 go_returns
 exact ⟨rfl,by go_grown⟩
theorem enter_4:Enters Tryz.prog 115:=enters_of Tryz.func115 (by kernel_rfl) rfl
theorem find_5 (w:World):Calls Tryz.prog 83 #[.int .i64 5] w fun e w'=>e = .returned (rowOne 116)∧Below w.heap.size w w':=by
 go_enter Tryz.func83,Tryz.ntmps83
 go_wp2
 go_returns
 exact ⟨rfl,by go_grown⟩
theorem enter_5:Enters Tryz.prog 116:=enters_of Tryz.func116 (by kernel_rfl) rfl
theorem find_6 (w:World):Calls Tryz.prog 83 #[.int .i64 6] w fun e w'=>e = .returned (rowTwo 119)∧Below w.heap.size w w':=by
 go_enter Tryz.func83,Tryz.ntmps83
 go_wp2
 go_returns
 exact ⟨rfl,by go_grown⟩
theorem enter_6:Enters Tryz.prog 119:=enters_of Tryz.func119 (by kernel_rfl) rfl
theorem find_7 (w:World):Calls Tryz.prog 83 #[.int .i64 7] w fun e w'=>e = .returned (rowTwo 118)∧Below w.heap.size w w':=by
 go_enter Tryz.func83,Tryz.ntmps83
 go_wp2
 go_returns
 exact ⟨rfl,by go_grown⟩
theorem enter_7:Enters Tryz.prog 118:=enters_of Tryz.func118 (by kernel_rfl) rfl
theorem find_8 (w:World):Calls Tryz.prog 83 #[.int .i64 8] w fun e w'=>e = .returned (rowTwo 120)∧Below w.heap.size w w':=by
 go_enter Tryz.func83,Tryz.ntmps83
 go_wp2
 go_returns
 exact ⟨rfl,by go_grown⟩
theorem enter_8:Enters Tryz.prog 120:=enters_of Tryz.func120 (by kernel_rfl) rfl
theorem find_9 (w:World):Calls Tryz.prog 83 #[.int .i64 9] w fun e w'=>e = .returned (rowTwo 117)∧Below w.heap.size w w':=by
 go_enter Tryz.func83,Tryz.ntmps83
 go_wp2
 go_returns
 exact ⟨rfl,by go_grown⟩
theorem enter_9:Enters Tryz.prog 117:=enters_of Tryz.func117 (by kernel_rfl) rfl
theorem find_10 (w:World):Calls Tryz.prog 83 #[.int .i64 10] w fun e w'=>e = .returned (rowTwo 122)∧Below w.heap.size w w':=by
 go_enter Tryz.func83,Tryz.ntmps83
 go_wp2
 go_returns
 exact ⟨rfl,by go_grown⟩
theorem enter_10:Enters Tryz.prog 122:=enters_of Tryz.func122 (by kernel_rfl) rfl
theorem find_11 (w:World):Calls Tryz.prog 83 #[.int .i64 11] w fun e w'=>e = .returned (rowTwo 123)∧Below w.heap.size w w':=by
 go_enter Tryz.func83,Tryz.ntmps83
 go_wp2
 go_returns
 exact ⟨rfl,by go_grown⟩
theorem enter_11:Enters Tryz.prog 123:=enters_of Tryz.func123 (by kernel_rfl) rfl
theorem find_none (o:Int) (h:o<0∨11<o) (w:World):Calls Tryz.prog 83 #[.int .i64 o] w fun e w'=>e = .returned (.agg #[.nilFunc,.nilFunc])∧Below w.heap.size w w':=by
 have d0:(o==0)=false:=by rw [beq_eq_false_iff_ne];omega
 have d1:(o==1)=false:=by rw [beq_eq_false_iff_ne];omega
 have d2:(o==2)=false:=by rw [beq_eq_false_iff_ne];omega
 have d3:(o==3)=false:=by rw [beq_eq_false_iff_ne];omega
 have d4:(o==4)=false:=by rw [beq_eq_false_iff_ne];omega
 have d5:(o==5)=false:=by rw [beq_eq_false_iff_ne];omega
 have d6:(o==6)=false:=by rw [beq_eq_false_iff_ne];omega
 have d7:(o==7)=false:=by rw [beq_eq_false_iff_ne];omega
 have d8:(o==8)=false:=by rw [beq_eq_false_iff_ne];omega
 have d9:(o==9)=false:=by rw [beq_eq_false_iff_ne];omega
 have d10:(o==10)=false:=by rw [beq_eq_false_iff_ne];omega
 have d11:(o==11)=false:=by rw [beq_eq_false_iff_ne];omega
 clear h
 go_enter Tryz.func83,Tryz.ntmps83
 go_wp2
 go_returns
 exact ⟨rfl,by go_grown⟩
def argsK (o:Int):Int:=if 0≤o∧o≤5 then 1 else if 6≤o∧o≤11 then 2 else 0
theorem args_one (o:Int) (f:FuncId) (hf : ∀ w,Calls Tryz.prog 83 #[.int .i64 o] w fun e w'=>e = .returned (rowOne f)∧Below w.heap.size w w') (w:World) :
  Calls Tryz.prog 93 #[.int .i64 o] w fun e w'=>e = .returned (.int .i64 1)∧Below w.heap.size w w':=by
 have HF:=Lib.hid hf
 clear hf
 unfold rowOne at HF
 have x1:=neq_one
 have x2:=neq_two
 have x3:=neq_one0
 have x4:=neq_two0
 go_enter Tryz.func93,Tryz.ntmps93
 go_wp2_with (go_at_call 83;refine (HF.out _).mono ?_;rintro e w1 ⟨rfl,hbw1⟩;skip)
 go_ret
 exact ⟨rfl,Below.alloc hbw1 hbw1.size _⟩
theorem args_two (o:Int) (f:FuncId) (hf : ∀ w,Calls Tryz.prog 83 #[.int .i64 o] w fun e w'=>e = .returned (rowTwo f)∧Below w.heap.size w w') (w:World) :
  Calls Tryz.prog 93 #[.int .i64 o] w fun e w'=>e = .returned (.int .i64 2)∧Below w.heap.size w w':=by
 have HF:=Lib.hid hf
 clear hf
 unfold rowTwo at HF
 have x1:=neq_one
 have x2:=neq_two
 have x3:=neq_one0
 have x4:=neq_two0
 go_enter Tryz.func93,Tryz.ntmps93
 go_wp2_with (go_at_call 83;refine (HF.out _).mono ?_;rintro e w1 ⟨rfl,hbw1⟩;skip)
 go_ret
 exact ⟨rfl,Below.alloc hbw1 hbw1.size _⟩
theorem args_none (o:Int) (h:o<0∨11<o) (w:World) :
  Calls Tryz.prog 93 #[.int .i64 o] w fun e w'=>e = .returned (.int .i64 0)∧Below w.heap.size w w':=by
 have HF:=Lib.hid (fun w=>find_none o h w)
 clear h
 have x1:=neq_one
 have x2:=neq_two
 have x3:=neq_one0
 have x4:=neq_two0
 go_enter Tryz.func93,Tryz.ntmps93
 go_wp2_with (go_at_call 83;refine (HF.out _).mono ?_;rintro e w1 ⟨rfl,hbw1⟩;skip)
 go_ret
 exact ⟨rfl,Below.alloc hbw1 hbw1.size _⟩
theorem ivlargs_any (o:Int) (w:World) :
  Calls Tryz.prog 93 #[.int .i64 o] w fun e w'=>e = .returned (.int .i64 (argsK o))∧Below w.heap.size w w':=by
 unfold argsK
 by_cases h1:0≤o∧o≤5
 ·rw [if_pos h1]
  rcases (show o=0∨o=1∨o=2∨o=3∨o=4∨o=5 by omega) with rfl|rfl|rfl|rfl|rfl|rfl
  ·exact args_one _ _ find_0 w
  ·exact args_one _ _ find_1 w
  ·exact args_one _ _ find_2 w
  ·exact args_one _ _ find_3 w
  ·exact args_one _ _ find_4 w
  ·exact args_one _ _ find_5 w
 ·rw [if_neg h1]
  by_cases h2:6≤o∧o≤11
  ·rw [if_pos h2]
   rcases (show o=6∨o=7∨o=8∨o=9∨o=10∨o=11 by omega) with rfl|rfl|rfl|rfl|rfl|rfl
   ·exact args_two _ _ find_6 w
   ·exact args_two _ _ find_7 w
   ·exact args_two _ _ find_8 w
   ·exact args_two _ _ find_9 w
   ·exact args_two _ _ find_10 w
   ·exact args_two _ _ find_11 w
  ·rw [if_neg h2]
   exact args_none o (by omega) w
end Go.Proofs.YteephgpefhodnaaGreat
namespace Go.Proofs.YteephgpefhodnaaGreat
open Go.RowKit Go.Sort Go.Fl
set_option linter.unusedSimpArgs false
set_option linter.unusedVariables false
set_option maxHeartbeats 1000000 in
theorem apply_one (o:Int) (a b c d:Nat) (ha:Wd a) (hb:Wd b) (hc:Wd c) (hd:Wd d) (f:FuncId) (x y:Int) (hent:Enters Tryz.prog f) (hf : ∀ w,Calls Tryz.prog 83 #[.int .i64 o] w fun e w'=>e = .returned (rowOne f)∧Below w.heap.size w w') (rx:Rg x) (ry:Rg y) (hn : ¬(tkLo a b=PI∧tkHi a b = -PI)) (hg : ∀ w,Calls Tryz.prog f #[.agg #[.float .f64 (ofKey (tkLo a b)),.float .f64 (ofKey (tkHi a b))]] w fun e w'=>e = .returned (.agg #[.float .f64 (ofKey (x)),.float .f64 (ofKey (y))])∧Below w.heap.size w w') (w:World) :
  Calls Tryz.prog 54 #[.int .i64 o,.agg #[.float .f64 (a),.float .f64 (b)],.agg #[.float .f64 (c),.float .f64 (d)]] w fun e w'=>e = .returned (.agg #[.float .f64 (ofKey (tkLo (ofKey x) (ofKey y))),.float .f64 (ofKey (tkHi (ofKey x) (ofKey y)))])∧Below w.heap.size w w':=by
 have vA:=tk_iv a b
 have vC:=tk_iv c d
 have rA:=vA.1;have rB:=vA.2.1;have rC:=vC.1;have rD:=vC.2.1
 have TA:=Lib.hid (fun w=>ivltake_any a b ha hb w)
 have TC:=Lib.hid (fun w=>ivltake_any c d hc hd w)
 have x1:=neq_one
 have x2:=neq_two
 have x3:=neq_one0
 have x4:=neq_two0
 have hent : ∀ (args:Array Value) (w:World),(callFunc f args).run Tryz.prog w = .ok (.enter f args) w:=hent
 have HF:=Lib.hid hf
 unfold rowOne at HF
 have TK:=Lib.hid (fun w=>ivltake_any (ofKey x) (ofKey y) (ofKey_lt rx) (ofKey_lt ry) w)
 have hNA:=fun w=>ivlno_any _ _ rA rB w
 rw [decide_eq_false hn] at hNA
 have NA:=Lib.hid hNA
 have HG:=Lib.hid hg
 clear hNA hn hg hf
 generalize tkLo (ofKey x) (ofKey y)=X at *
 generalize tkHi (ofKey x) (ofKey y)=Y at *
 generalize tkLo a b=A at *
 generalize tkHi a b=Bh at *
 generalize tkLo c d=C at *
 generalize tkHi c d=D at *
 clear vA vC
 go_enter Tryz.func54,Tryz.ntmps54
 go_wp2_with fail
 refine Hold.i222.go ?_;intro wl H;have F:=H.f;dsimp only [Fac] at F
 have k:=H.r;dsimp only [Reg] at k
 refine wp_region_below_tail 4 (by kernel_rfl) (by kernel_rfl) ?_
 simp only [List.take_succ_cons,List.take_zero,List.drop_succ_cons,List.drop_zero]
 repeat (go_big_quiet_step ((first|(with_reducible exact Calls.regrown_of (TA.out _))|(with_reducible exact Calls.regrown_of (TC.out _)))))
 refine wpQuiet_nil (fun w1 hb => ?_);clear k
 replace H:=H.below hb;clear hb;replace F:=H.f;dsimp only [Fac] at F
 iterate 6 go_step
 first|refine ((((H.set 0 _).set 1 _).set 2 _).set 3 _).goc ?_|refine ((((H.set 0 _).set 1 _).set 2 _).set 3 _).gol ?_|refine ((((H.set 0 _).set 1 _).set 2 _).set 3 _).go ?_|refine ((((H.set 0 _).set 1 _).set 2 _).set 3 _).gob ?_
 clear H F;intro w2 H;dsimp only [upd] at H;have F:=H.f;dsimp only [Fac] at F
 go_wp2_with fail
 refine (HF.out _).mono ?_;rintro e w3 ⟨rfl,hb⟩
 replace H:=H.below hb;clear hb;replace F:=H.f;dsimp only [Fac] at F
 go_wp2_with fail
 have n1:=H.lt;dsimp only [Lts] at n1
 refine (H.new2 _ _ _).goc ?_;clear H F;intro w4 H;dsimp only [add] at H;have F:=H.f;dsimp only [Fac] at F
 refine (NA.out _).mono ?_;rintro e w5 ⟨rfl,hb⟩
 replace H:=H.below hb;clear hb;replace F:=H.f;dsimp only [Fac] at F
 go_wp2_with fail
 refine (HG.out _).mono ?_;rintro e w6 ⟨rfl,hb⟩
 replace H:=H.below hb;clear hb;replace F:=H.f;dsimp only [Fac] at F
 go_wp2_with fail
 refine (TK.out _).mono ?_;rintro e w7 ⟨rfl,hb⟩
 replace H:=H.below hb;clear hb;replace F:=H.f;dsimp only [Fac] at F
 go_wp2_with fail
 refine ((H.set 4 _).set 5 _).gob ?_;clear H F;intro wz H;dsimp only [upd] at H;have F:=H.f;dsimp only [Fac] at F
 refine bodyPost_ret (by simp [results,Tryz.results54,go_sem,F]) rfl ⟨rfl,?_⟩;exact H.B
set_option maxHeartbeats 1000000 in
theorem apply_one_no (o:Int) (a b c d:Nat) (ha:Wd a) (hb:Wd b) (hc:Wd c) (hd:Wd d) (f:FuncId) (hent:Enters Tryz.prog f) (hf : ∀ w,Calls Tryz.prog 83 #[.int .i64 o] w fun e w'=>e = .returned (rowOne f)∧Below w.heap.size w w') (hn:tkLo a b=PI∧tkHi a b = -PI) (w:World) :
  Calls Tryz.prog 54 #[.int .i64 o,.agg #[.float .f64 (a),.float .f64 (b)],.agg #[.float .f64 (c),.float .f64 (d)]] w fun e w'=>e = .returned (.agg #[.float .f64 (ofKey (PI)),.float .f64 (ofKey (-PI))])∧Below w.heap.size w w':=by
 have vA:=tk_iv a b
 have vC:=tk_iv c d
 have rA:=vA.1;have rB:=vA.2.1;have rC:=vC.1;have rD:=vC.2.1
 have TA:=Lib.hid (fun w=>ivltake_any a b ha hb w)
 have TC:=Lib.hid (fun w=>ivltake_any c d hc hd w)
 have x1:=neq_one
 have x2:=neq_two
 have x3:=neq_one0
 have x4:=neq_two0
 have hent : ∀ (args:Array Value) (w:World),(callFunc f args).run Tryz.prog w = .ok (.enter f args) w:=hent
 have HF:=Lib.hid hf
 unfold rowOne at HF
 have hNA:=fun w=>ivlno_any _ _ rA rB w
 rw [decide_eq_true hn] at hNA
 have NA:=Lib.hid hNA
 clear hNA hn hf
 generalize tkLo a b=A at *
 generalize tkHi a b=Bh at *
 generalize tkLo c d=C at *
 generalize tkHi c d=D at *
 clear vA vC
 go_enter Tryz.func54,Tryz.ntmps54
 go_wp2_with fail
 refine Hold.i222.go ?_;intro wl H;have F:=H.f;dsimp only [Fac] at F
 have k:=H.r;dsimp only [Reg] at k
 refine wp_region_below_tail 4 (by kernel_rfl) (by kernel_rfl) ?_
 simp only [List.take_succ_cons,List.take_zero,List.drop_succ_cons,List.drop_zero]
 repeat (go_big_quiet_step ((first|(with_reducible exact Calls.regrown_of (TA.out _))|(with_reducible exact Calls.regrown_of (TC.out _)))))
 refine wpQuiet_nil (fun w1 hb => ?_);clear k
 replace H:=H.below hb;clear hb;replace F:=H.f;dsimp only [Fac] at F
 iterate 6 go_step
 first|refine ((((H.set 0 _).set 1 _).set 2 _).set 3 _).goc ?_|refine ((((H.set 0 _).set 1 _).set 2 _).set 3 _).gol ?_|refine ((((H.set 0 _).set 1 _).set 2 _).set 3 _).go ?_|refine ((((H.set 0 _).set 1 _).set 2 _).set 3 _).gob ?_
 clear H F;intro w2 H;dsimp only [upd] at H;have F:=H.f;dsimp only [Fac] at F
 go_wp2_with fail
 refine (HF.out _).mono ?_;rintro e w3 ⟨rfl,hb⟩
 replace H:=H.below hb;clear hb;replace F:=H.f;dsimp only [Fac] at F
 go_wp2_with fail
 have n1:=H.lt;dsimp only [Lts] at n1
 refine (H.new2 _ _ _).goc ?_;clear H F;intro w4 H;dsimp only [add] at H;have F:=H.f;dsimp only [Fac] at F
 refine (NA.out _).mono ?_;rintro e w5 ⟨rfl,hb⟩
 replace H:=H.below hb;clear hb;replace F:=H.f;dsimp only [Fac] at F
 go_wp2_with fail
 refine (ivlempty_any _).mono ?_;rintro e w6 ⟨rfl,hb⟩
 replace H:=H.below hb;clear hb;replace F:=H.f;dsimp only [Fac] at F
 go_wp2_with fail
 refine ((H.set 4 _).set 5 _).gob ?_;clear H F;intro wz H;dsimp only [upd] at H;have F:=H.f;dsimp only [Fac] at F
 refine bodyPost_ret (by simp [results,Tryz.results54,go_sem,F]) rfl ⟨rfl,?_⟩;exact H.B
set_option maxHeartbeats 1000000 in
theorem apply_two (o:Int) (a b c d:Nat) (ha:Wd a) (hb:Wd b) (hc:Wd c) (hd:Wd d) (f:FuncId) (x y:Int) (hent:Enters Tryz.prog f) (hf : ∀ w,Calls Tryz.prog 83 #[.int .i64 o] w fun e w'=>e = .returned (rowTwo f)∧Below w.heap.size w w') (rx:Rg x) (ry:Rg y) (hn : ¬(tkLo a b=PI∧tkHi a b = -PI)) (hn2 : ¬(tkLo c d=PI∧tkHi c d = -PI)) (hg : ∀ w,Calls Tryz.prog f #[.agg #[.float .f64 (ofKey (tkLo a b)),.float .f64 (ofKey (tkHi a b))],.agg #[.float .f64 (ofKey (tkLo c d)),.float .f64 (ofKey (tkHi c d))]] w fun e w'=>e = .returned (.agg #[.float .f64 (ofKey (x)),.float .f64 (ofKey (y))])∧Below w.heap.size w w') (w:World) :
  Calls Tryz.prog 54 #[.int .i64 o,.agg #[.float .f64 (a),.float .f64 (b)],.agg #[.float .f64 (c),.float .f64 (d)]] w fun e w'=>e = .returned (.agg #[.float .f64 (ofKey (tkLo (ofKey x) (ofKey y))),.float .f64 (ofKey (tkHi (ofKey x) (ofKey y)))])∧Below w.heap.size w w':=by
 have vA:=tk_iv a b
 have vC:=tk_iv c d
 have rA:=vA.1;have rB:=vA.2.1;have rC:=vC.1;have rD:=vC.2.1
 have TA:=Lib.hid (fun w=>ivltake_any a b ha hb w)
 have TC:=Lib.hid (fun w=>ivltake_any c d hc hd w)
 have x1:=neq_one
 have x2:=neq_two
 have x3:=neq_one0
 have x4:=neq_two0
 have hent : ∀ (args:Array Value) (w:World),(callFunc f args).run Tryz.prog w = .ok (.enter f args) w:=hent
 have HF:=Lib.hid hf
 unfold rowTwo at HF
 have TK:=Lib.hid (fun w=>ivltake_any (ofKey x) (ofKey y) (ofKey_lt rx) (ofKey_lt ry) w)
 have hNA:=fun w=>ivlno_any _ _ rA rB w
 rw [decide_eq_false hn] at hNA
 have NA:=Lib.hid hNA
 have hNC:=fun w=>ivlno_any _ _ rC rD w
 rw [decide_eq_false hn2] at hNC
 have NC:=Lib.hid hNC
 have HG:=Lib.hid hg
 clear hNA hn hNC hn2 hg hf
 generalize tkLo (ofKey x) (ofKey y)=X at *
 generalize tkHi (ofKey x) (ofKey y)=Y at *
 generalize tkLo a b=A at *
 generalize tkHi a b=Bh at *
 generalize tkLo c d=C at *
 generalize tkHi c d=D at *
 clear vA vC
 go_enter Tryz.func54,Tryz.ntmps54
 go_wp2_with fail
 refine Hold.i222.go ?_;intro wl H;have F:=H.f;dsimp only [Fac] at F
 have k:=H.r;dsimp only [Reg] at k
 refine wp_region_below_tail 4 (by kernel_rfl) (by kernel_rfl) ?_
 simp only [List.take_succ_cons,List.take_zero,List.drop_succ_cons,List.drop_zero]
 repeat (go_big_quiet_step ((first|(with_reducible exact Calls.regrown_of (TA.out _))|(with_reducible exact Calls.regrown_of (TC.out _)))))
 refine wpQuiet_nil (fun w1 hb => ?_);clear k
 replace H:=H.below hb;clear hb;replace F:=H.f;dsimp only [Fac] at F
 iterate 6 go_step
 first|refine ((((H.set 0 _).set 1 _).set 2 _).set 3 _).goc ?_|refine ((((H.set 0 _).set 1 _).set 2 _).set 3 _).gol ?_|refine ((((H.set 0 _).set 1 _).set 2 _).set 3 _).go ?_|refine ((((H.set 0 _).set 1 _).set 2 _).set 3 _).gob ?_
 clear H F;intro w2 H;dsimp only [upd] at H;have F:=H.f;dsimp only [Fac] at F
 go_wp2_with fail
 refine (HF.out _).mono ?_;rintro e w3 ⟨rfl,hb⟩
 replace H:=H.below hb;clear hb;replace F:=H.f;dsimp only [Fac] at F
 go_wp2_with fail
 have n1:=H.lt;dsimp only [Lts] at n1
 refine (H.new2 _ _ _).goc ?_;clear H F;intro w4 H;dsimp only [add] at H;have F:=H.f;dsimp only [Fac] at F
 refine (NA.out _).mono ?_;rintro e w5 ⟨rfl,hb⟩
 replace H:=H.below hb;clear hb;replace F:=H.f;dsimp only [Fac] at F
 go_wp2_with fail
 refine (NC.out _).mono ?_;rintro e w6 ⟨rfl,hb⟩
 replace H:=H.below hb;clear hb;replace F:=H.f;dsimp only [Fac] at F
 go_wp2_with fail
 refine (HG.out _).mono ?_;rintro e w7 ⟨rfl,hb⟩
 replace H:=H.below hb;clear hb;replace F:=H.f;dsimp only [Fac] at F
 go_wp2_with fail
 refine (TK.out _).mono ?_;rintro e w8 ⟨rfl,hb⟩
 replace H:=H.below hb;clear hb;replace F:=H.f;dsimp only [Fac] at F
 go_wp2_with fail
 refine ((H.set 4 _).set 5 _).gob ?_;clear H F;intro wz H;dsimp only [upd] at H;have F:=H.f;dsimp only [Fac] at F
 refine bodyPost_ret (by simp [results,Tryz.results54,go_sem,F]) rfl ⟨rfl,?_⟩;exact H.B
set_option maxHeartbeats 1000000 in
theorem apply_two_no (o:Int) (a b c d:Nat) (ha:Wd a) (hb:Wd b) (hc:Wd c) (hd:Wd d) (f:FuncId) (hent:Enters Tryz.prog f) (hf : ∀ w,Calls Tryz.prog 83 #[.int .i64 o] w fun e w'=>e = .returned (rowTwo f)∧Below w.heap.size w w') (hn:tkLo a b=PI∧tkHi a b = -PI) (w:World) :
  Calls Tryz.prog 54 #[.int .i64 o,.agg #[.float .f64 (a),.float .f64 (b)],.agg #[.float .f64 (c),.float .f64 (d)]] w fun e w'=>e = .returned (.agg #[.float .f64 (ofKey (PI)),.float .f64 (ofKey (-PI))])∧Below w.heap.size w w':=by
 have vA:=tk_iv a b
 have vC:=tk_iv c d
 have rA:=vA.1;have rB:=vA.2.1;have rC:=vC.1;have rD:=vC.2.1
 have TA:=Lib.hid (fun w=>ivltake_any a b ha hb w)
 have TC:=Lib.hid (fun w=>ivltake_any c d hc hd w)
 have x1:=neq_one
 have x2:=neq_two
 have x3:=neq_one0
 have x4:=neq_two0
 have hent : ∀ (args:Array Value) (w:World),(callFunc f args).run Tryz.prog w = .ok (.enter f args) w:=hent
 have HF:=Lib.hid hf
 unfold rowTwo at HF
 have hNA:=fun w=>ivlno_any _ _ rA rB w
 rw [decide_eq_true hn] at hNA
 have NA:=Lib.hid hNA
 clear hNA hn hf
 generalize tkLo a b=A at *
 generalize tkHi a b=Bh at *
 generalize tkLo c d=C at *
 generalize tkHi c d=D at *
 clear vA vC
 go_enter Tryz.func54,Tryz.ntmps54
 go_wp2_with fail
 refine Hold.i222.go ?_;intro wl H;have F:=H.f;dsimp only [Fac] at F
 have k:=H.r;dsimp only [Reg] at k
 refine wp_region_below_tail 4 (by kernel_rfl) (by kernel_rfl) ?_
 simp only [List.take_succ_cons,List.take_zero,List.drop_succ_cons,List.drop_zero]
 repeat (go_big_quiet_step ((first|(with_reducible exact Calls.regrown_of (TA.out _))|(with_reducible exact Calls.regrown_of (TC.out _)))))
 refine wpQuiet_nil (fun w1 hb => ?_);clear k
 replace H:=H.below hb;clear hb;replace F:=H.f;dsimp only [Fac] at F
 iterate 6 go_step
 first|refine ((((H.set 0 _).set 1 _).set 2 _).set 3 _).goc ?_|refine ((((H.set 0 _).set 1 _).set 2 _).set 3 _).gol ?_|refine ((((H.set 0 _).set 1 _).set 2 _).set 3 _).go ?_|refine ((((H.set 0 _).set 1 _).set 2 _).set 3 _).gob ?_
 clear H F;intro w2 H;dsimp only [upd] at H;have F:=H.f;dsimp only [Fac] at F
 go_wp2_with fail
 refine (HF.out _).mono ?_;rintro e w3 ⟨rfl,hb⟩
 replace H:=H.below hb;clear hb;replace F:=H.f;dsimp only [Fac] at F
 go_wp2_with fail
 have n1:=H.lt;dsimp only [Lts] at n1
 refine (H.new2 _ _ _).goc ?_;clear H F;intro w4 H;dsimp only [add] at H;have F:=H.f;dsimp only [Fac] at F
 refine (NA.out _).mono ?_;rintro e w5 ⟨rfl,hb⟩
 replace H:=H.below hb;clear hb;replace F:=H.f;dsimp only [Fac] at F
 go_wp2_with fail
 refine (ivlempty_any _).mono ?_;rintro e w6 ⟨rfl,hb⟩
 replace H:=H.below hb;clear hb;replace F:=H.f;dsimp only [Fac] at F
 go_wp2_with fail
 refine ((H.set 4 _).set 5 _).gob ?_;clear H F;intro wz H;dsimp only [upd] at H;have F:=H.f;dsimp only [Fac] at F
 refine bodyPost_ret (by simp [results,Tryz.results54,go_sem,F]) rfl ⟨rfl,?_⟩;exact H.B
set_option maxHeartbeats 1000000 in
theorem apply_two_no2 (o:Int) (a b c d:Nat) (ha:Wd a) (hb:Wd b) (hc:Wd c) (hd:Wd d) (f:FuncId) (hent:Enters Tryz.prog f) (hf : ∀ w,Calls Tryz.prog 83 #[.int .i64 o] w fun e w'=>e = .returned (rowTwo f)∧Below w.heap.size w w') (hn : ¬(tkLo a b=PI∧tkHi a b = -PI)) (hn2:tkLo c d=PI∧tkHi c d = -PI) (w:World) :
  Calls Tryz.prog 54 #[.int .i64 o,.agg #[.float .f64 (a),.float .f64 (b)],.agg #[.float .f64 (c),.float .f64 (d)]] w fun e w'=>e = .returned (.agg #[.float .f64 (ofKey (PI)),.float .f64 (ofKey (-PI))])∧Below w.heap.size w w':=by
 have vA:=tk_iv a b
 have vC:=tk_iv c d
 have rA:=vA.1;have rB:=vA.2.1;have rC:=vC.1;have rD:=vC.2.1
 have TA:=Lib.hid (fun w=>ivltake_any a b ha hb w)
 have TC:=Lib.hid (fun w=>ivltake_any c d hc hd w)
 have x1:=neq_one
 have x2:=neq_two
 have x3:=neq_one0
 have x4:=neq_two0
 have hent : ∀ (args:Array Value) (w:World),(callFunc f args).run Tryz.prog w = .ok (.enter f args) w:=hent
 have HF:=Lib.hid hf
 unfold rowTwo at HF
 have hNA:=fun w=>ivlno_any _ _ rA rB w
 rw [decide_eq_false hn] at hNA
 have NA:=Lib.hid hNA
 have hNC:=fun w=>ivlno_any _ _ rC rD w
 rw [decide_eq_true hn2] at hNC
 have NC:=Lib.hid hNC
 clear hNA hn hNC hn2 hf
 generalize tkLo a b=A at *
 generalize tkHi a b=Bh at *
 generalize tkLo c d=C at *
 generalize tkHi c d=D at *
 clear vA vC
 go_enter Tryz.func54,Tryz.ntmps54
 go_wp2_with fail
 refine Hold.i222.go ?_;intro wl H;have F:=H.f;dsimp only [Fac] at F
 have k:=H.r;dsimp only [Reg] at k
 refine wp_region_below_tail 4 (by kernel_rfl) (by kernel_rfl) ?_
 simp only [List.take_succ_cons,List.take_zero,List.drop_succ_cons,List.drop_zero]
 repeat (go_big_quiet_step ((first|(with_reducible exact Calls.regrown_of (TA.out _))|(with_reducible exact Calls.regrown_of (TC.out _)))))
 refine wpQuiet_nil (fun w1 hb => ?_);clear k
 replace H:=H.below hb;clear hb;replace F:=H.f;dsimp only [Fac] at F
 iterate 6 go_step
 first|refine ((((H.set 0 _).set 1 _).set 2 _).set 3 _).goc ?_|refine ((((H.set 0 _).set 1 _).set 2 _).set 3 _).gol ?_|refine ((((H.set 0 _).set 1 _).set 2 _).set 3 _).go ?_|refine ((((H.set 0 _).set 1 _).set 2 _).set 3 _).gob ?_
 clear H F;intro w2 H;dsimp only [upd] at H;have F:=H.f;dsimp only [Fac] at F
 go_wp2_with fail
 refine (HF.out _).mono ?_;rintro e w3 ⟨rfl,hb⟩
 replace H:=H.below hb;clear hb;replace F:=H.f;dsimp only [Fac] at F
 go_wp2_with fail
 have n1:=H.lt;dsimp only [Lts] at n1
 refine (H.new2 _ _ _).goc ?_;clear H F;intro w4 H;dsimp only [add] at H;have F:=H.f;dsimp only [Fac] at F
 refine (NA.out _).mono ?_;rintro e w5 ⟨rfl,hb⟩
 replace H:=H.below hb;clear hb;replace F:=H.f;dsimp only [Fac] at F
 go_wp2_with fail
 refine (NC.out _).mono ?_;rintro e w6 ⟨rfl,hb⟩
 replace H:=H.below hb;clear hb;replace F:=H.f;dsimp only [Fac] at F
 go_wp2_with fail
 refine (ivlempty_any _).mono ?_;rintro e w7 ⟨rfl,hb⟩
 replace H:=H.below hb;clear hb;replace F:=H.f;dsimp only [Fac] at F
 go_wp2_with fail
 refine ((H.set 4 _).set 5 _).gob ?_;clear H F;intro wz H;dsimp only [upd] at H;have F:=H.f;dsimp only [Fac] at F
 refine bodyPost_ret (by simp [results,Tryz.results54,go_sem,F]) rfl ⟨rfl,?_⟩;exact H.B
set_option maxHeartbeats 1000000 in
theorem apply_none (o:Int) (a b c d:Nat) (ha:Wd a) (hb:Wd b) (hc:Wd c) (hd:Wd d) (h:o<0∨11<o) (w:World) :
  Calls Tryz.prog 54 #[.int .i64 o,.agg #[.float .f64 (a),.float .f64 (b)],.agg #[.float .f64 (c),.float .f64 (d)]] w fun e w'=>e = .returned (.agg #[.float .f64 (ofKey (PI)),.float .f64 (ofKey (-PI))])∧Below w.heap.size w w':=by
 have vA:=tk_iv a b
 have vC:=tk_iv c d
 have rA:=vA.1;have rB:=vA.2.1;have rC:=vC.1;have rD:=vC.2.1
 have TA:=Lib.hid (fun w=>ivltake_any a b ha hb w)
 have TC:=Lib.hid (fun w=>ivltake_any c d hc hd w)
 have x1:=neq_one
 have x2:=neq_two
 have x3:=neq_one0
 have x4:=neq_two0
 have HF:=Lib.hid (fun w=>find_none o h w)
 clear h
 generalize tkLo a b=A at *
 generalize tkHi a b=Bh at *
 generalize tkLo c d=C at *
 generalize tkHi c d=D at *
 clear vA vC
 go_enter Tryz.func54,Tryz.ntmps54
 go_wp2_with fail
 refine Hold.i222.go ?_;intro wl H;have F:=H.f;dsimp only [Fac] at F
 have k:=H.r;dsimp only [Reg] at k
 refine wp_region_below_tail 4 (by kernel_rfl) (by kernel_rfl) ?_
 simp only [List.take_succ_cons,List.take_zero,List.drop_succ_cons,List.drop_zero]
 repeat (go_big_quiet_step ((first|(with_reducible exact Calls.regrown_of (TA.out _))|(with_reducible exact Calls.regrown_of (TC.out _)))))
 refine wpQuiet_nil (fun w1 hb => ?_);clear k
 replace H:=H.below hb;clear hb;replace F:=H.f;dsimp only [Fac] at F
 iterate 6 go_step
 first|refine ((((H.set 0 _).set 1 _).set 2 _).set 3 _).goc ?_|refine ((((H.set 0 _).set 1 _).set 2 _).set 3 _).gol ?_|refine ((((H.set 0 _).set 1 _).set 2 _).set 3 _).go ?_|refine ((((H.set 0 _).set 1 _).set 2 _).set 3 _).gob ?_
 clear H F;intro w2 H;dsimp only [upd] at H;have F:=H.f;dsimp only [Fac] at F
 go_wp2_with fail
 refine (HF.out _).mono ?_;rintro e w3 ⟨rfl,hb⟩
 replace H:=H.below hb;clear hb;replace F:=H.f;dsimp only [Fac] at F
 go_wp2_with fail
 have n1:=H.lt;dsimp only [Lts] at n1
 refine (H.new2 _ _ _).goc ?_;clear H F;intro w4 H;dsimp only [add] at H;have F:=H.f;dsimp only [Fac] at F
 refine (ivlempty_any _).mono ?_;rintro e w5 ⟨rfl,hb⟩
 replace H:=H.below hb;clear hb;replace F:=H.f;dsimp only [Fac] at F
 go_wp2_with fail
 refine ((H.set 4 _).set 5 _).gob ?_;clear H F;intro wz H;dsimp only [upd] at H;have F:=H.f;dsimp only [Fac] at F
 refine bodyPost_ret (by simp [results,Tryz.results54,go_sem,F]) rfl ⟨rfl,?_⟩;exact H.B
end Go.Proofs.YteephgpefhodnaaGreat
