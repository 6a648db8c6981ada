/- The document's Apply: of one, of two. -/
import Derived.Test.YteephgpefhodnaaGreatG4
namespace Go.Proofs.YteephgpefhodnaaGreat
open Go.RowKit Go.Sort Go.Fl
set_option linter.unusedSimpArgs false
set_option linter.unusedVariables false
set_option maxRecDepth 4000 in
set_option maxHeartbeats 1000000 in
theorem one_0 (A B:Int) (rA:Rg A) (rB:Rg B) (x y:Int) (hc : ∀ w,Calls Tryz.prog 84 #[.agg #[.float .f64 (ofKey (A)),.float .f64 (ofKey (B))]] w fun e w'=>e = .returned (.agg #[.float .f64 (ofKey (x)),.float .f64 (ofKey (y))])∧Below w.heap.size w w') (w:World) :
  Calls Tryz.prog 57 #[.int .i64 0,.agg #[.float .f64 (ofKey (A)),.float .f64 (ofKey (B))]] w fun e w'=>e = .returned (.agg #[.float .f64 (ofKey (x)),.float .f64 (ofKey (y))])∧Below w.heap.size w w':=by
 have HC:=Lib.hid hc
 clear hc
 go_enter Tryz.func57,Tryz.ntmps57
 go_wp2_with fail
 refine (HC.out _).mono ?_;rintro e w1 ⟨rfl,hb⟩
 have H:=Hold.i22.below hb;clear hb;have F:=H.f;dsimp only [Fac] at F
 go_wp2_with fail
 refine ((H.set 2 _).set 3 _).gob ?_;clear H F;intro wz H;dsimp only [upd] at H;have F:=H.f;dsimp only [Fac] at F
 refine bodyPost_ret (by simp [results,Tryz.results57,go_sem,F]) rfl ⟨rfl,?_⟩;exact H.B
set_option maxRecDepth 4000 in
set_option maxHeartbeats 1000000 in
theorem one_1 (A B:Int) (rA:Rg A) (rB:Rg B) (x y:Int) (hc : ∀ w,Calls Tryz.prog 88 #[.agg #[.float .f64 (ofKey (A)),.float .f64 (ofKey (B))]] w fun e w'=>e = .returned (.agg #[.float .f64 (ofKey (x)),.float .f64 (ofKey (y))])∧Below w.heap.size w w') (w:World) :
  Calls Tryz.prog 57 #[.int .i64 1,.agg #[.float .f64 (ofKey (A)),.float .f64 (ofKey (B))]] w fun e w'=>e = .returned (.agg #[.float .f64 (ofKey (x)),.float .f64 (ofKey (y))])∧Below w.heap.size w w':=by
 have HC:=Lib.hid hc
 clear hc
 go_enter Tryz.func57,Tryz.ntmps57
 go_wp2_with fail
 refine (HC.out _).mono ?_;rintro e w1 ⟨rfl,hb⟩
 have H:=Hold.i22.below hb;clear hb;have F:=H.f;dsimp only [Fac] at F
 go_wp2_with fail
 refine ((H.set 2 _).set 3 _).gob ?_;clear H F;intro wz H;dsimp only [upd] at H;have F:=H.f;dsimp only [Fac] at F
 refine bodyPost_ret (by simp [results,Tryz.results57,go_sem,F]) rfl ⟨rfl,?_⟩;exact H.B
set_option maxRecDepth 4000 in
set_option maxHeartbeats 1000000 in
theorem one_5 (A B:Int) (rA:Rg A) (rB:Rg B) (x y:Int) (hc : ∀ w,Calls Tryz.prog 87 #[.agg #[.float .f64 4607182418800017408,.float .f64 4607182418800017408],.agg #[.float .f64 (ofKey (A)),.float .f64 (ofKey (B))]] w fun e w'=>e = .returned (.agg #[.float .f64 (ofKey (x)),.float .f64 (ofKey (y))])∧Below w.heap.size w w') (w:World) :
  Calls Tryz.prog 57 #[.int .i64 5,.agg #[.float .f64 (ofKey (A)),.float .f64 (ofKey (B))]] w fun e w'=>e = .returned (.agg #[.float .f64 (ofKey (x)),.float .f64 (ofKey (y))])∧Below w.heap.size w w':=by
 have HC:=Lib.hid hc
 clear hc
 go_enter Tryz.func57,Tryz.ntmps57
 go_wp2_with fail
 refine (HC.out _).mono ?_;rintro e w1 ⟨rfl,hb⟩
 have H:=Hold.i22.below hb;clear hb;have F:=H.f;dsimp only [Fac] at F
 go_wp2_with fail
 refine ((H.set 2 _).set 3 _).gob ?_;clear H F;intro wz H;dsimp only [upd] at H;have F:=H.f;dsimp only [Fac] at F
 refine bodyPost_ret (by simp [results,Tryz.results57,go_sem,F]) rfl ⟨rfl,?_⟩;exact H.B
set_option maxRecDepth 4000 in
set_option maxHeartbeats 1000000 in
theorem one_2 (A B:Int) (rA:Rg A) (rB:Rg B) (l h x y:Int) (hc : ∀ w,Calls Tryz.prog 88 #[.agg #[.float .f64 (ofKey (A)),.float .f64 (ofKey (B))]] w fun e w'=>e = .returned (.agg #[.float .f64 (ofKey (l)),.float .f64 (ofKey (h))])∧Below w.heap.size w w') (ha : ∀ w,Calls Tryz.prog 85 #[.int .i64 8,.float .f64 (ofKey (l)),.float .f64 (ofKey (l)),.bool false] w fun e w'=>e = .returned (.float .f64 (ofKey (x)))∧Below w.heap.size w w') (hb : ∀ w,Calls Tryz.prog 85 #[.int .i64 8,.float .f64 (ofKey (h)),.float .f64 (ofKey (h)),.bool true] w fun e w'=>e = .returned (.float .f64 (ofKey (y)))∧Below w.heap.size w w') (w:World) :
  Calls Tryz.prog 57 #[.int .i64 2,.agg #[.float .f64 (ofKey (A)),.float .f64 (ofKey (B))]] w fun e w'=>e = .returned (.agg #[.float .f64 (ofKey (x)),.float .f64 (ofKey (y))])∧Below w.heap.size w w':=by
 have HC:=Lib.hid hc
 have EA:=Lib.hid ha
 have EB:=Lib.hid hb
 clear hc ha hb
 go_enter Tryz.func57,Tryz.ntmps57
 go_wp2_with fail
 refine (HC.out _).mono ?_;rintro e w1 ⟨rfl,hb⟩
 have H:=Hold.i22.below hb;clear hb;have F:=H.f;dsimp only [Fac] at F
 go_wp2_with fail
 have n1:=H.lt;dsimp only [Lts] at n1
 refine (H.new2 _ _ _).go ?_;clear H F;intro w2 H;dsimp only [add] at H;have F:=H.f;dsimp only [Fac] at F
 have k:=H.r;dsimp only [Reg] at k
 refine wp_region_below_tail 11 (by kernel_rfl) (by kernel_rfl) ?_
 simp only [List.take_succ_cons,List.take_zero,List.drop_succ_cons,List.drop_zero]
 repeat (go_big_quiet_step ((first|(with_reducible exact Calls.regrown_of (EA.out _))|(with_reducible exact Calls.regrown_of (EB.out _)))))
 refine wpQuiet_nil (fun w3 hb => ?_);clear k
 replace H:=H.below hb;clear hb;replace F:=H.f;dsimp only [Fac] at F
 go_wp2_with fail
 refine ((H.set 2 _).set 3 _).gob ?_;clear H F;intro wz H;dsimp only [upd] at H;have F:=H.f;dsimp only [Fac] at F
 refine bodyPost_ret (by simp [results,Tryz.results57,go_sem,F]) rfl ⟨rfl,?_⟩;exact H.B
set_option maxRecDepth 4000 in
set_option maxHeartbeats 1000000 in
theorem one_3e (A B:Int) (rA:Rg A) (rB:Rg B) (h:B<0) (w:World) :
  Calls Tryz.prog 57 #[.int .i64 3,.agg #[.float .f64 (ofKey (A)),.float .f64 (ofKey (B))]] w fun e w'=>e = .returned (.agg #[.float .f64 (ofKey (PI)),.float .f64 (ofKey (-PI))])∧Below w.heap.size w w':=by
 go_enter Tryz.func57,Tryz.ntmps57
 go_wp2_with fail
 refine (refempty_any _).mono ?_;rintro e w1 ⟨rfl,hb⟩
 have H:=Hold.i22.below hb;clear hb;have F:=H.f;dsimp only [Fac] at F
 go_wp2_with fail
 refine ((H.set 2 _).set 3 _).gob ?_;clear H F;intro wz H;dsimp only [upd] at H;have F:=H.f;dsimp only [Fac] at F
 refine bodyPost_ret (by simp [results,Tryz.results57,go_sem,F]) rfl ⟨rfl,?_⟩;exact H.B
set_option maxRecDepth 4000 in
set_option maxHeartbeats 1000000 in
theorem one_311 (A B:Int) (rA:Rg A) (rB:Rg B) (x y:Int) (h:0≤B) (h1:A<0) (h2:B<PI) (hc : ∀ w,Calls Tryz.prog 18 #[.int .i64 3,.float .f64 (0),.float .f64 0,.bool false] w fun e w'=>e = .returned (.float .f64 (ofKey (x)))∧Below w.heap.size w w') (hd : ∀ w,Calls Tryz.prog 18 #[.int .i64 3,.float .f64 (ofKey (B)),.float .f64 0,.bool true] w fun e w'=>e = .returned (.float .f64 (ofKey (y)))∧Below w.heap.size w w') (w:World) :
  Calls Tryz.prog 57 #[.int .i64 3,.agg #[.float .f64 (ofKey (A)),.float .f64 (ofKey (B))]] w fun e w'=>e = .returned (.agg #[.float .f64 (ofKey (x)),.float .f64 (ofKey (y))])∧Below w.heap.size w w':=by
 have SA:=Lib.hid hc
 clear hc
 have SB:=Lib.hid hd
 clear hd
 go_enter Tryz.func57,Tryz.ntmps57
 go_wp2_with fail
 refine (SA.out _).mono ?_;rintro e w1 ⟨rfl,hb⟩
 have H:=Hold.i22.below hb;clear hb;have F:=H.f;dsimp only [Fac] at F
 go_wp2_with (go_at_call 59;refine (refinf_any _).mono ?_;rintro e w' ⟨rfl,rfl⟩)
 have n1:=H.lt;dsimp only [Lts] at n1
 refine (H.new2 _ _ _).go ?_;clear H F;intro w2 H;dsimp only [add] at H;have F:=H.f;dsimp only [Fac] at F
 have k:=H.r;dsimp only [Reg] at k
 refine wp_region_below (by kernel_rfl) (by kernel_rfl) ?_
 repeat (go_big_quiet_step ((go_at_call 59;exact quiet_same (refinf_any _))))
 refine wpQuiet_nil (fun w3 hb => ?_);clear k
 replace H:=H.below hb;clear hb;replace F:=H.f;dsimp only [Fac] at F
 go_wp2_with fail
 refine (SB.out _).mono ?_;rintro e w4 ⟨rfl,hb⟩
 replace H:=H.below hb;clear hb;replace F:=H.f;dsimp only [Fac] at F
 go_wp2_with fail
 refine (((H.set 5 _).set 2 _).set 3 _).gob ?_;clear H F;intro wz H;dsimp only [upd] at H;have F:=H.f;dsimp only [Fac] at F
 refine bodyPost_ret (by simp [results,Tryz.results57,go_sem,F]) rfl ⟨rfl,?_⟩;exact H.B
set_option maxRecDepth 4000 in
set_option maxHeartbeats 1000000 in
theorem one_310 (A B:Int) (rA:Rg A) (rB:Rg B) (x y:Int) (h:0≤B) (h1:A<0) (h2:B=PI) (hc : ∀ w,Calls Tryz.prog 18 #[.int .i64 3,.float .f64 (0),.float .f64 0,.bool false] w fun e w'=>e = .returned (.float .f64 (ofKey (x)))∧Below w.heap.size w w') (w:World) :
  Calls Tryz.prog 57 #[.int .i64 3,.agg #[.float .f64 (ofKey (A)),.float .f64 (ofKey (B))]] w fun e w'=>e = .returned (.agg #[.float .f64 (ofKey (x)),.float .f64 (ofKey (PI))])∧Below w.heap.size w w':=by
 have SA:=Lib.hid hc
 clear hc
 subst h2
 go_enter Tryz.func57,Tryz.ntmps57
 go_wp2_with fail
 refine (SA.out _).mono ?_;rintro e w1 ⟨rfl,hb⟩
 have H:=Hold.i22.below hb;clear hb;have F:=H.f;dsimp only [Fac] at F
 go_wp2_with (go_at_call 59;refine (refinf_any _).mono ?_;rintro e w' ⟨rfl,rfl⟩)
 have n1:=H.lt;dsimp only [Lts] at n1
 refine (H.new2 _ _ _).go ?_;clear H F;intro w2 H;dsimp only [add] at H;have F:=H.f;dsimp only [Fac] at F
 have k:=H.r;dsimp only [Reg] at k
 refine wp_region_below (by kernel_rfl) (by kernel_rfl) ?_
 repeat (go_big_quiet_step ((go_at_call 59;exact quiet_same (refinf_any _))))
 refine wpQuiet_nil (fun w3 hb => ?_);clear k
 replace H:=H.below hb;clear hb;replace F:=H.f;dsimp only [Fac] at F
 go_wp2_with fail
 refine ((H.set 2 _).set 3 _).gob ?_;clear H F;intro wz H;dsimp only [upd] at H;have F:=H.f;dsimp only [Fac] at F
 refine bodyPost_ret (by simp [results,Tryz.results57,go_sem,F]) rfl ⟨rfl,?_⟩;exact H.B
set_option maxRecDepth 4000 in
set_option maxHeartbeats 1000000 in
theorem one_301 (A B:Int) (rA:Rg A) (rB:Rg B) (x y:Int) (h:0≤B) (h1:0≤A) (h2:B<PI) (hc : ∀ w,Calls Tryz.prog 18 #[.int .i64 3,.float .f64 (ofKey (A)),.float .f64 0,.bool false] w fun e w'=>e = .returned (.float .f64 (ofKey (x)))∧Below w.heap.size w w') (hd : ∀ w,Calls Tryz.prog 18 #[.int .i64 3,.float .f64 (ofKey (B)),.float .f64 0,.bool true] w fun e w'=>e = .returned (.float .f64 (ofKey (y)))∧Below w.heap.size w w') (w:World) :
  Calls Tryz.prog 57 #[.int .i64 3,.agg #[.float .f64 (ofKey (A)),.float .f64 (ofKey (B))]] w fun e w'=>e = .returned (.agg #[.float .f64 (ofKey (x)),.float .f64 (ofKey (y))])∧Below w.heap.size w w':=by
 have SA:=Lib.hid hc
 clear hc
 have SB:=Lib.hid hd
 clear hd
 go_enter Tryz.func57,Tryz.ntmps57
 go_wp2_with fail
 refine (SA.out _).mono ?_;rintro e w1 ⟨rfl,hb⟩
 have H:=Hold.i22.below hb;clear hb;have F:=H.f;dsimp only [Fac] at F
 go_wp2_with (go_at_call 59;refine (refinf_any _).mono ?_;rintro e w' ⟨rfl,rfl⟩)
 have n1:=H.lt;dsimp only [Lts] at n1
 refine (H.new2 _ _ _).go ?_;clear H F;intro w2 H;dsimp only [add] at H;have F:=H.f;dsimp only [Fac] at F
 have k:=H.r;dsimp only [Reg] at k
 refine wp_region_below (by kernel_rfl) (by kernel_rfl) ?_
 repeat (go_big_quiet_step ((go_at_call 59;exact quiet_same (refinf_any _))))
 refine wpQuiet_nil (fun w3 hb => ?_);clear k
 replace H:=H.below hb;clear hb;replace F:=H.f;dsimp only [Fac] at F
 go_wp2_with fail
 refine (SB.out _).mono ?_;rintro e w4 ⟨rfl,hb⟩
 replace H:=H.below hb;clear hb;replace F:=H.f;dsimp only [Fac] at F
 go_wp2_with fail
 refine (((H.set 5 _).set 2 _).set 3 _).gob ?_;clear H F;intro wz H;dsimp only [upd] at H;have F:=H.f;dsimp only [Fac] at F
 refine bodyPost_ret (by simp [results,Tryz.results57,go_sem,F]) rfl ⟨rfl,?_⟩;exact H.B
set_option maxRecDepth 4000 in
set_option maxHeartbeats 1000000 in
theorem one_300 (A B:Int) (rA:Rg A) (rB:Rg B) (x y:Int) (h:0≤B) (h1:0≤A) (h2:B=PI) (hc : ∀ w,Calls Tryz.prog 18 #[.int .i64 3,.float .f64 (ofKey (A)),.float .f64 0,.bool false] w fun e w'=>e = .returned (.float .f64 (ofKey (x)))∧Below w.heap.size w w') (w:World) :
  Calls Tryz.prog 57 #[.int .i64 3,.agg #[.float .f64 (ofKey (A)),.float .f64 (ofKey (B))]] w fun e w'=>e = .returned (.agg #[.float .f64 (ofKey (x)),.float .f64 (ofKey (PI))])∧Below w.heap.size w w':=by
 have SA:=Lib.hid hc
 clear hc
 subst h2
 go_enter Tryz.func57,Tryz.ntmps57
 go_wp2_with fail
 refine (SA.out _).mono ?_;rintro e w1 ⟨rfl,hb⟩
 have H:=Hold.i22.below hb;clear hb;have F:=H.f;dsimp only [Fac] at F
 go_wp2_with (go_at_call 59;refine (refinf_any _).mono ?_;rintro e w' ⟨rfl,rfl⟩)
 have n1:=H.lt;dsimp only [Lts] at n1
 refine (H.new2 _ _ _).go ?_;clear H F;intro w2 H;dsimp only [add] at H;have F:=H.f;dsimp only [Fac] at F
 have k:=H.r;dsimp only [Reg] at k
 refine wp_region_below (by kernel_rfl) (by kernel_rfl) ?_
 repeat (go_big_quiet_step ((go_at_call 59;exact quiet_same (refinf_any _))))
 refine wpQuiet_nil (fun w3 hb => ?_);clear k
 replace H:=H.below hb;clear hb;replace F:=H.f;dsimp only [Fac] at F
 go_wp2_with fail
 refine ((H.set 2 _).set 3 _).gob ?_;clear H F;intro wz H;dsimp only [upd] at H;have F:=H.f;dsimp only [Fac] at F
 refine bodyPost_ret (by simp [results,Tryz.results57,go_sem,F]) rfl ⟨rfl,?_⟩;exact H.B
set_option maxRecDepth 4000 in
set_option maxHeartbeats 1000000 in
theorem one_4 (A B:Int) (rA:Rg A) (rB:Rg B) (x y:Int) (hc : ∀ w,Calls Tryz.prog 53 #[.agg #[.float .f64 (ofKey (floorK A)),.float .f64 (ofKey (floorK B))]] w fun e w'=>e = .returned (.agg #[.float .f64 (ofKey (x)),.float .f64 (ofKey (y))])∧Below w.heap.size w w') (w:World) :
  Calls Tryz.prog 57 #[.int .i64 4,.agg #[.float .f64 (ofKey (A)),.float .f64 (ofKey (B))]] w fun e w'=>e = .returned (.agg #[.float .f64 (ofKey (x)),.float .f64 (ofKey (y))])∧Below w.heap.size w w':=by
 have FA:=Lib.hid (fun w=>floor_any A rA w)
 have FB:=Lib.hid (fun w=>floor_any B rB w)
 have TK:=Lib.hid hc
 clear hc
 generalize floorK A=fa at *
 generalize floorK B=fb at *
 go_enter Tryz.func57,Tryz.ntmps57
 go_wp2_with fail
 refine Hold.i22.go ?_;intro wl H;have F:=H.f;dsimp only [Fac] at F
 have k:=H.r;dsimp only [Reg] at k
 refine wp_region_below_tail 8 (by kernel_rfl) (by kernel_rfl) ?_
 simp only [List.take_succ_cons,List.take_zero,List.drop_succ_cons,List.drop_zero]
 repeat (go_big_quiet_step ((first|(go_at_call 89;first|(with_reducible exact quiet_same (FA.out _))|(with_reducible exact quiet_same (FB.out _)))|(go_at_call 53;exact Calls.regrown_of (TK.out _)))))
 refine wpQuiet_nil (fun w3 hb => ?_);clear k
 replace H:=H.below hb;clear hb;replace F:=H.f;dsimp only [Fac] at F
 go_wp2_with fail
 refine ((H.set 2 _).set 3 _).gob ?_;clear H F;intro wz H;dsimp only [upd] at H;have F:=H.f;dsimp only [Fac] at F
 refine bodyPost_ret (by simp [results,Tryz.results57,go_sem,F]) rfl ⟨rfl,?_⟩;exact H.B
set_option maxRecDepth 4000 in
set_option maxHeartbeats 1000000 in
theorem one_n (A B:Int) (rA:Rg A) (rB:Rg B) (o:Int) (h:o<0) (w:World) :
  Calls Tryz.prog 57 #[.int .i64 o,.agg #[.float .f64 (ofKey (A)),.float .f64 (ofKey (B))]] w fun e w'=>e = .returned (.agg #[.float .f64 (ofKey (PI)),.float .f64 (ofKey (-PI))])∧Below w.heap.size w w':=by
 have d0:(o==0)=false:=by rw [beq_eq_false_iff_ne];omega
 have d1:(o==1)=false:=by rw [beq_eq_false_iff_ne];omega
 have d2:(o==2)=false:=by rw [beq_eq_false_iff_ne];omega
 have d3:(o==3)=false:=by rw [beq_eq_false_iff_ne];omega
 have d4:(o==4)=false:=by rw [beq_eq_false_iff_ne];omega
 have d5:(o==5)=false:=by rw [beq_eq_false_iff_ne];omega
 clear h
 go_enter Tryz.func57,Tryz.ntmps57
 go_wp2_with fail
 refine (refempty_any _).mono ?_;rintro e w1 ⟨rfl,hb⟩
 have H:=Hold.i22.below hb;clear hb;have F:=H.f;dsimp only [Fac] at F
 go_wp2_with fail
 refine ((H.set 2 _).set 3 _).gob ?_;clear H F;intro wz H;dsimp only [upd] at H;have F:=H.f;dsimp only [Fac] at F
 refine bodyPost_ret (by simp [results,Tryz.results57,go_sem,F]) rfl ⟨rfl,?_⟩;exact H.B
set_option maxRecDepth 4000 in
set_option maxHeartbeats 1000000 in
theorem two_7 (A B C D:Int) (rA:Rg A) (rB:Rg B) (rC:Rg C) (rD:Rg D) (x y:Int) (hc : ∀ w,Calls Tryz.prog 84 #[.agg #[.float .f64 (ofKey (C)),.float .f64 (ofKey (D))]] w fun e w'=>e = .returned (.agg #[.float .f64 (ofKey (-D)),.float .f64 (ofKey (-C))])∧Below w.heap.size w w') (ha : ∀ w,Calls Tryz.prog 85 #[.int .i64 6,.float .f64 (ofKey (A)),.float .f64 (ofKey (-D)),.bool false] w fun e w'=>e = .returned (.float .f64 (ofKey (x)))∧Below w.heap.size w w') (hb : ∀ w,Calls Tryz.prog 85 #[.int .i64 6,.float .f64 (ofKey (B)),.float .f64 (ofKey (-C)),.bool true] w fun e w'=>e = .returned (.float .f64 (ofKey (y)))∧Below w.heap.size w w') (w:World) :
  Calls Tryz.prog 56 #[.int .i64 7,.agg #[.float .f64 (ofKey (A)),.float .f64 (ofKey (B))],.agg #[.float .f64 (ofKey (C)),.float .f64 (ofKey (D))]] w fun e w'=>e = .returned (.agg #[.float .f64 (ofKey (x)),.float .f64 (ofKey (y))])∧Below w.heap.size w w':=by
 have HC:=Lib.hid hc
 have EA:=Lib.hid ha
 have EB:=Lib.hid hb
 clear hc ha hb
 go_enter Tryz.func56,Tryz.ntmps56
 go_wp2_with fail
 refine (HC.out _).mono ?_;rintro e w1 ⟨rfl,hb⟩
 have H:=Hold.i222.below hb;clear hb;have F:=H.f;dsimp only [Fac] at F
 go_wp2_with fail
 refine ((H.set 2 _).set 3 _).go ?_;clear H F;intro w2 H;dsimp only [upd] at H;have F:=H.f;dsimp only [Fac] at F
 have k:=H.r;dsimp only [Reg] at k
 refine wp_region_below_tail 11 (by kernel_rfl) (by kernel_rfl) ?_
 simp only [List.take_succ_cons,List.take_zero,List.drop_succ_cons,List.drop_zero]
 repeat (go_big_quiet_step ((first|(with_reducible exact Calls.regrown_of (EA.out _))|(with_reducible exact Calls.regrown_of (EB.out _)))))
 refine wpQuiet_nil (fun w3 hb => ?_);clear k
 replace H:=H.below hb;clear hb;replace F:=H.f;dsimp only [Fac] at F
 go_wp2_with fail
 refine ((H.set 4 _).set 5 _).gob ?_;clear H F;intro wz H;dsimp only [upd] at H;have F:=H.f;dsimp only [Fac] at F
 refine bodyPost_ret (by simp [results,Tryz.results56,go_sem,F]) rfl ⟨rfl,?_⟩;exact H.B
set_option maxRecDepth 4000 in
set_option maxHeartbeats 1000000 in
theorem two_6 (A B C D:Int) (rA:Rg A) (rB:Rg B) (rC:Rg C) (rD:Rg D) (x y:Int) (ha : ∀ w,Calls Tryz.prog 85 #[.int .i64 6,.float .f64 (ofKey (A)),.float .f64 (ofKey (C)),.bool false] w fun e w'=>e = .returned (.float .f64 (ofKey (x)))∧Below w.heap.size w w') (hb : ∀ w,Calls Tryz.prog 85 #[.int .i64 6,.float .f64 (ofKey (B)),.float .f64 (ofKey (D)),.bool true] w fun e w'=>e = .returned (.float .f64 (ofKey (y)))∧Below w.heap.size w w') (w:World) :
  Calls Tryz.prog 56 #[.int .i64 6,.agg #[.float .f64 (ofKey (A)),.float .f64 (ofKey (B))],.agg #[.float .f64 (ofKey (C)),.float .f64 (ofKey (D))]] w fun e w'=>e = .returned (.agg #[.float .f64 (ofKey (x)),.float .f64 (ofKey (y))])∧Below w.heap.size w w':=by
 have EA:=Lib.hid ha
 have EB:=Lib.hid hb
 clear ha hb
 go_enter Tryz.func56,Tryz.ntmps56
 go_wp2_with fail
 refine Hold.i222.go ?_;intro wl H;have F:=H.f;dsimp only [Fac] at F
 have k:=H.r;dsimp only [Reg] at k
 refine wp_region_below_tail 11 (by kernel_rfl) (by kernel_rfl) ?_
 simp only [List.take_succ_cons,List.take_zero,List.drop_succ_cons,List.drop_zero]
 repeat (go_big_quiet_step ((first|(with_reducible exact Calls.regrown_of (EA.out _))|(with_reducible exact Calls.regrown_of (EB.out _)))))
 refine wpQuiet_nil (fun w3 hb => ?_);clear k
 replace H:=H.below hb;clear hb;replace F:=H.f;dsimp only [Fac] at F
 go_wp2_with fail
 refine ((H.set 4 _).set 5 _).gob ?_;clear H F;intro wz H;dsimp only [upd] at H;have F:=H.f;dsimp only [Fac] at F
 refine bodyPost_ret (by simp [results,Tryz.results56,go_sem,F]) rfl ⟨rfl,?_⟩;exact H.B
set_option maxRecDepth 4000 in
set_option maxHeartbeats 1000000 in
theorem two_8 (A B C D:Int) (rA:Rg A) (rB:Rg B) (rC:Rg C) (rD:Rg D) (x y:Int) (hc : ∀ w,Calls Tryz.prog 86 #[.agg #[.float .f64 (ofKey (A)),.float .f64 (ofKey (B))],.agg #[.float .f64 (ofKey (C)),.float .f64 (ofKey (D))]] w fun e w'=>e = .returned (.agg #[.float .f64 (ofKey (x)),.float .f64 (ofKey (y))])∧Below w.heap.size w w') (w:World) :
  Calls Tryz.prog 56 #[.int .i64 8,.agg #[.float .f64 (ofKey (A)),.float .f64 (ofKey (B))],.agg #[.float .f64 (ofKey (C)),.float .f64 (ofKey (D))]] w fun e w'=>e = .returned (.agg #[.float .f64 (ofKey (x)),.float .f64 (ofKey (y))])∧Below w.heap.size w w':=by
 have HC:=Lib.hid hc
 clear hc
 go_enter Tryz.func56,Tryz.ntmps56
 go_wp2_with fail
 refine (HC.out _).mono ?_;rintro e w1 ⟨rfl,hb⟩
 have H:=Hold.i222.below hb;clear hb;have F:=H.f;dsimp only [Fac] at F
 go_wp2_with fail
 refine ((H.set 4 _).set 5 _).gob ?_;clear H F;intro wz H;dsimp only [upd] at H;have F:=H.f;dsimp only [Fac] at F
 refine bodyPost_ret (by simp [results,Tryz.results56,go_sem,F]) rfl ⟨rfl,?_⟩;exact H.B
set_option maxRecDepth 4000 in
set_option maxHeartbeats 1000000 in
theorem two_9 (A B C D:Int) (rA:Rg A) (rB:Rg B) (rC:Rg C) (rD:Rg D) (x y:Int) (hc : ∀ w,Calls Tryz.prog 87 #[.agg #[.float .f64 (ofKey (A)),.float .f64 (ofKey (B))],.agg #[.float .f64 (ofKey (C)),.float .f64 (ofKey (D))]] w fun e w'=>e = .returned (.agg #[.float .f64 (ofKey (x)),.float .f64 (ofKey (y))])∧Below w.heap.size w w') (w:World) :
  Calls Tryz.prog 56 #[.int .i64 9,.agg #[.float .f64 (ofKey (A)),.float .f64 (ofKey (B))],.agg #[.float .f64 (ofKey (C)),.float .f64 (ofKey (D))]] w fun e w'=>e = .returned (.agg #[.float .f64 (ofKey (x)),.float .f64 (ofKey (y))])∧Below w.heap.size w w':=by
 have HC:=Lib.hid hc
 clear hc
 go_enter Tryz.func56,Tryz.ntmps56
 go_wp2_with fail
 refine (HC.out _).mono ?_;rintro e w1 ⟨rfl,hb⟩
 have H:=Hold.i222.below hb;clear hb;have F:=H.f;dsimp only [Fac] at F
 go_wp2_with fail
 refine ((H.set 4 _).set 5 _).gob ?_;clear H F;intro wz H;dsimp only [upd] at H;have F:=H.f;dsimp only [Fac] at F
 refine bodyPost_ret (by simp [results,Tryz.results56,go_sem,F]) rfl ⟨rfl,?_⟩;exact H.B
set_option maxRecDepth 4000 in
set_option maxHeartbeats 1000000 in
theorem two_10 (A B C D:Int) (rA:Rg A) (rB:Rg B) (rC:Rg C) (rD:Rg D)  (w:World) :
  Calls Tryz.prog 56 #[.int .i64 10,.agg #[.float .f64 (ofKey (A)),.float .f64 (ofKey (B))],.agg #[.float .f64 (ofKey (C)),.float .f64 (ofKey (D))]] w fun e w'=>e = .returned (.agg #[.float .f64 (ofKey (min A C)),.float .f64 (ofKey (min B D))])∧Below w.heap.size w w':=by
 have EA:=Lib.hid (fun w=>least_k A C rA rC w)
 have EB:=Lib.hid (fun w=>least_k B D rB rD w)
 have r1:=rg_min rA rC
 have r2:=rg_min rB rD
 go_enter Tryz.func56,Tryz.ntmps56
 go_wp2_with fail
 refine Hold.i222.go ?_;intro wl H;have F:=H.f;dsimp only [Fac] at F
 have k:=H.r;dsimp only [Reg] at k
 refine wp_region_below_tail 11 (by kernel_rfl) (by kernel_rfl) ?_
 simp only [List.take_succ_cons,List.take_zero,List.drop_succ_cons,List.drop_zero]
 repeat (go_big_quiet_step ((first|(with_reducible exact quiet_same (EA.out _))|(with_reducible exact quiet_same (EB.out _)))))
 refine wpQuiet_nil (fun w3 hb => ?_);clear k
 replace H:=H.below hb;clear hb;replace F:=H.f;dsimp only [Fac] at F
 go_wp2_with fail
 refine ((H.set 4 _).set 5 _).gob ?_;clear H F;intro wz H;dsimp only [upd] at H;have F:=H.f;dsimp only [Fac] at F
 refine bodyPost_ret (by simp [results,Tryz.results56,go_sem,F]) rfl ⟨rfl,?_⟩;exact H.B
set_option maxRecDepth 4000 in
set_option maxHeartbeats 1000000 in
theorem two_11 (A B C D:Int) (rA:Rg A) (rB:Rg B) (rC:Rg C) (rD:Rg D)  (w:World) :
  Calls Tryz.prog 56 #[.int .i64 11,.agg #[.float .f64 (ofKey (A)),.float .f64 (ofKey (B))],.agg #[.float .f64 (ofKey (C)),.float .f64 (ofKey (D))]] w fun e w'=>e = .returned (.agg #[.float .f64 (ofKey (max A C)),.float .f64 (ofKey (max B D))])∧Below w.heap.size w w':=by
 have EA:=Lib.hid (fun w=>least_nk A C rA rC w)
 have EB:=Lib.hid (fun w=>least_nk B D rB rD w)
 have r1:=rg_max rA rC
 have r2:=rg_max rB rD
 go_enter Tryz.func56,Tryz.ntmps56
 go_wp2_with fail
 refine Hold.i222.go ?_;intro wl H;have F:=H.f;dsimp only [Fac] at F
 have k:=H.r;dsimp only [Reg] at k
 refine wp_region_below_tail 17 (by kernel_rfl) (by kernel_rfl) ?_
 simp only [List.take_succ_cons,List.take_zero,List.drop_succ_cons,List.drop_zero]
 repeat (go_big_quiet_step ((first|(with_reducible exact quiet_same (EA.out _))|(with_reducible exact quiet_same (EB.out _)))))
 refine wpQuiet_nil (fun w3 hb => ?_);clear k
 replace H:=H.below hb;clear hb;replace F:=H.f;dsimp only [Fac] at F
 go_wp2_with fail
 refine ((H.set 4 _).set 5 _).gob ?_;clear H F;intro wz H;dsimp only [upd] at H;have F:=H.f;dsimp only [Fac] at F
 refine bodyPost_ret (by simp [results,Tryz.results56,go_sem,F]) rfl ⟨rfl,?_⟩;exact H.B
set_option maxRecDepth 4000 in
set_option maxHeartbeats 1000000 in
theorem two_n (A B C D:Int) (rA:Rg A) (rB:Rg B) (rC:Rg C) (rD:Rg D) (o:Int) (h:11<o) (w:World) :
  Calls Tryz.prog 56 #[.int .i64 o,.agg #[.float .f64 (ofKey (A)),.float .f64 (ofKey (B))],.agg #[.float .f64 (ofKey (C)),.float .f64 (ofKey (D))]] w fun e w'=>e = .returned (.agg #[.float .f64 (ofKey (PI)),.float .f64 (ofKey (-PI))])∧Below w.heap.size w w':=by
 have d6:(o==6)=false:=by rw [beq_eq_false_iff_ne];omega
 have d7:(o==7)=false:=by rw [beq_eq_false_iff_ne];omega
 have d8:(o==8)=false:=by rw [beq_eq_false_iff_ne];omega
 have d9:(o==9)=false:=by rw [beq_eq_false_iff_ne];omega
 have d10:(o==10)=false:=by rw [beq_eq_false_iff_ne];omega
 have d11:(o==11)=false:=by rw [beq_eq_false_iff_ne];omega
 clear h
 go_enter Tryz.func56,Tryz.ntmps56
 go_wp2_with fail
 refine (refempty_any _).mono ?_;rintro e w1 ⟨rfl,hb⟩
 have H:=Hold.i222.below hb;clear hb;have F:=H.f;dsimp only [Fac] at F
 go_wp2_with fail
 refine ((H.set 4 _).set 5 _).gob ?_;clear H F;intro wz H;dsimp only [upd] at H;have F:=H.f;dsimp only [Fac] at F
 refine bodyPost_ret (by simp [results,Tryz.results56,go_sem,F]) rfl ⟨rfl,?_⟩;exact H.B
theorem ref_sqrt (x:Nat) (up:Bool) (fx:fin x) (wx:Wd x) (h:0≤key x) : ∀ w,Calls Tryz.prog 18 #[.int .i64 3,.float .f64 x,.float .f64 0,.bool up] w fun e w'=>e = .returned (.float .f64 (ofKey (sqrtK (key x) up)))∧Below w.heap.size w w':=fun w=>by
 have:=refround_any 3 x 0 up wx wd_zero w
 rw [round_yes up ⟨fx,.inl ⟨rfl,h⟩⟩] at this
 exact this
theorem side_6e {x y:Int} (rx:Rg x) (ry:Rg y) (up:Bool) (h:EndOk 6 x y) : ∀ w,Calls Tryz.prog 85 #[.int .i64 6,.float .f64 (ofKey (x)),.float .f64 (ofKey (y)),.bool up] w fun e w'=>e = .returned (.float .f64 (ofKey (endK 6 x y up)))∧Below w.heap.size w w':=fun w =>
 side_68 6 x y up rx ry (.inl ⟨rfl,by unfold EndOk at h;omega,by unfold EndOk at h;omega⟩) w
theorem one_cd {o:Int} (h:0≤o∧o≤5) (A B C D:Int):opLo o A B C D=opLo o A B 0 0∧opHi o A B C D=opHi o A B 0 0:=by
 rcases (show o=0∨o=1∨o=2∨o=3∨o=4∨o=5 by omega) with rfl|rfl|rfl|rfl|rfl|rfl<;>exact ⟨rfl,rfl⟩
theorem one_iv {o:Int} (ho:0≤o∧o≤5) {A B:Int} (h:NE A B) (C D:Int):Iv (opLo o A B C D) (opHi o A B C D):=by
 rw [(one_cd ho A B C D).1,(one_cd ho A B C D).2];exact op_iv o h (NE_pt fi_zero)
theorem refone_any (o A B C D:Int) (h:NE A B) (ho:0≤o∧o≤5) (w:World) :
  Calls Tryz.prog 57 #[.int .i64 o,.agg #[.float .f64 (ofKey (A)),.float .f64 (ofKey (B))]] w fun e w'=>e = .returned (.agg #[.float .f64 (ofKey (opLo o A B C D)),.float .f64 (ofKey (opHi o A B C D))])∧Below w.heap.size w w':=by
 have hP:=PI_pos
 have hv:=one_iv ho h C D
 obtain ⟨rA,rB,hAB,hA,hB⟩:=id h
 rcases (show o=0∨o=1∨o=2∨o=3∨o=4∨o=5 by omega) with rfl|rfl|rfl|rfl|rfl|rfl
 ·exact one_0 A B rA rB _ _ (fun w=>refflip_any A B h w) w
 ·exact one_1 A B rA rB _ _ (fun w=>refsize_any A B h w) w
 ·exact one_2 A B rA rB _ _ _ _ (fun w=>refsize_any A B h w) (side_8e (absLo_rg rA rB) (absLo_rg rA rB) false) (side_8e (absHi_rg rA rB) (absHi_rg rA rB) true) w
 ·rw [opLo_3,opHi_3]
  by_cases h0:B<0
  ·rw [if_pos h0,if_pos h0];exact one_3e A B rA rB h0 w
  ·rw [if_neg h0,if_neg h0]
   have g0:0≤B:=by omega
   by_cases h1:A<0
   ·rw [Int.max_eq_right (by omega)]
    have hc:=ref_sqrt 0 false (by decide) wd_zero (by decide)
    rw [key_zero] at hc
    by_cases h2:B<PI
    ·rw [if_pos h2]
     have hd:=ref_sqrt (ofKey B) true (fin_ofKey (by omega) h2) (ofKey_lt rB) (by rw [key_ofKey rB];exact g0)
     rw [key_ofKey rB] at hd
     exact one_311 A B rA rB _ _ g0 h1 h2 hc hd w
    ·rw [if_neg h2];exact one_310 A B rA rB _ 0 g0 h1 (by have:=rB.2;omega) hc w
   ·rw [Int.max_eq_left (by omega)]
    have hc:=ref_sqrt (ofKey A) false (fin_ofKey (by omega) hA) (ofKey_lt rA) (by rw [key_ofKey rA];omega)
    rw [key_ofKey rA] at hc
    by_cases h2:B<PI
    ·rw [if_pos h2]
     have hd:=ref_sqrt (ofKey B) true (fin_ofKey (by omega) h2) (ofKey_lt rB) (by rw [key_ofKey rB];exact g0)
     rw [key_ofKey rB] at hd
     exact one_301 A B rA rB _ _ g0 (by omega) h2 hc hd w
    ·rw [if_neg h2];exact one_300 A B rA rB _ 0 g0 (by omega) (by have:=rB.2;omega) hc w
 ·rw [opLo_4,opHi_4] at hv
  have t:=tk_canon hv
  have hc:=fun w=>reftaken_any (ofKey (floorK A)) (ofKey (floorK B)) (ofKey_lt hv.1) (ofKey_lt hv.2.1) w
  rw [t.1,t.2] at hc
  exact one_4 A B rA rB _ _ hc w
 ·have n1:NE 4607182418800017408 4607182418800017408:=NE_pt ⟨by decide,by decide⟩
  have hc:=fun w=>refquot_any 4607182418800017408 4607182418800017408 A B n1 h w
  have e1:ofKey 4607182418800017408=4607182418800017408:=by decide
  rw [e1] at hc
  exact one_5 A B rA rB _ _ hc w
theorem reftwo_any (o A B C D:Int) (h:NE A B) (h':NE C D) (ho:6≤o∧o≤11) (w:World) :
  Calls Tryz.prog 56 #[.int .i64 o,.agg #[.float .f64 (ofKey (A)),.float .f64 (ofKey (B))],.agg #[.float .f64 (ofKey (C)),.float .f64 (ofKey (D))]] w fun e w'=>e = .returned (.agg #[.float .f64 (ofKey (opLo o A B C D)),.float .f64 (ofKey (opHi o A B C D))])∧Below w.heap.size w w':=by
 obtain ⟨rA,rB,_,_,_⟩:=id h
 obtain ⟨rC,rD,_,_,_⟩:=id h'
 obtain ⟨o1,o2,o3,o4⟩:=ok6 h h'
 rcases (show o=6∨o=7∨o=8∨o=9∨o=10∨o=11 by omega) with rfl|rfl|rfl|rfl|rfl|rfl
 ·exact two_6 A B C D rA rB rC rD _ _ (side_6e rA rC false o1) (side_6e rB rD true o2) w
 ·exact two_7 A B C D rA rB rC rD _ _ (fun w=>refflip_any C D h' w) (side_6e rA (Rg_neg rD) false o3) (side_6e rB (Rg_neg rC) true o4) w
 ·exact two_8 A B C D rA rB rC rD _ _ (fun w=>refproduct_any A B C D rA rB rC rD w) w
 ·exact two_9 A B C D rA rB rC rD _ _ (fun w=>refquot_any A B C D h h' w) w
 ·exact two_10 A B C D rA rB rC rD w
 ·exact two_11 A B C D rA rB rC rD w
end Go.Proofs.YteephgpefhodnaaGreat
