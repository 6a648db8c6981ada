/- Package deco: Do. -/
import Derived.Test.YteephgpefhodnaaGreatD2
namespace Go.Proofs.YteephgpefhodnaaGreat
open Go.RowKit Go.Sort Go.Fl
set_option linter.unusedSimpArgs false
set_option linter.unusedVariables false
theorem _root_.Go.Hold.gok {w0 W:World} {l:List (Nat × Nat × Value)} {K:Act→World→Prop} {a:Act} (h:Hold w0 W l) (k : ∀ x,Hold w0 x l→K a x):K a W:=k W h
@[go_sem] theorem min2_if (x y:Int):(if y<x then y else x)=min x y:=by split<;>omega
set_option maxHeartbeats 4000000 in
theorem do_none (o:Int) (a b a2 b2:Nat) (d d2:Int) (A Bh C D m n:Int) (rA:Rg A) (rB:Rg Bh) (rC:Rg C) (rD:Rg D) 
  (hNA : ∀ w,Calls Tryz.prog 93 #[.int .i64 o] w fun e w'=>e = .returned (.int .i64 0)∧Below w.heap.size w w')
  (hOA : ∀ w,Calls Tryz.prog 63 #[.agg #[.float .f64 (a),.float .f64 (b)],.int .i64 d] w fun e w'=>e = .returned (.agg #[.float .f64 (ofKey (A)),.float .f64 (ofKey (Bh)),.int .i64 (m)])∧Below w.heap.size w w')
  (hOB : ∀ w,Calls Tryz.prog 63 #[.agg #[.float .f64 (a2),.float .f64 (b2)],.int .i64 d2] w fun e w'=>e = .returned (.agg #[.float .f64 (ofKey (C)),.float .f64 (ofKey (D)),.int .i64 (n)])∧Below w.heap.size w w') (w:World) :
  Calls Tryz.prog 65 #[.int .i64 o,.agg #[.float .f64 (a),.float .f64 (b),.int .i64 (d)],.agg #[.float .f64 (a2),.float .f64 (b2),.int .i64 (d2)]] w fun e w'=>e = .returned (.agg #[.float .f64 (ofKey (PI)),.float .f64 (ofKey (-PI)),.int .i64 (0)])∧Below w.heap.size w w':=by
 have NA:=Lib.hid hNA
 have OA:=Lib.hid hOA
 have OB:=Lib.hid hOB
 clear hNA hOA hOB
 go_enter Tryz.func65,Tryz.ntmps65
 go_wp2_with fail
 refine (NA.out _).mono ?_;rintro e w1 ⟨rfl,hb⟩
 have H:=Hold.i333.below hb;clear hb;have F:=H.f;dsimp only [Fac] at F
 go_wp2_with fail
 have k:=H.r;dsimp only [Reg] at k
 refine wp_region_below_tail 10 (by kernel_rfl) (by kernel_rfl) ?_
 simp only [List.take_succ_cons,List.take_zero,List.drop_succ_cons,List.drop_zero]
 repeat (go_big_quiet_step ((first|(with_reducible exact Calls.regrown_of (OA.out _))|(with_reducible exact Calls.regrown_of (OB.out _)))))
 refine wpQuiet_nil (fun w2 hb => ?_);clear k
 replace H:=H.below hb;clear hb;replace F:=H.f;dsimp only [Fac] at F
 iterate 8 go_step
 first|refine ((((((H.set 0 _).set 1 _).set 2 _).set 3 _).set 4 _).set 5 _).goc ?_|refine ((((((H.set 0 _).set 1 _).set 2 _).set 3 _).set 4 _).set 5 _).gol ?_|refine ((((((H.set 0 _).set 1 _).set 2 _).set 3 _).set 4 _).set 5 _).go ?_|refine ((((((H.set 0 _).set 1 _).set 2 _).set 3 _).set 4 _).set 5 _).gob ?_|refine ((((((H.set 0 _).set 1 _).set 2 _).set 3 _).set 4 _).set 5 _).gok ?_
 clear H F;intro w3 H;dsimp only [upd] at H;have F:=H.f;dsimp only [Fac] at F
 go_wp2_with fail
 refine (decoill_any _).mono ?_;rintro e w4 ⟨rfl,hb⟩
 replace H:=H.below hb;clear hb;replace F:=H.f;dsimp only [Fac] at F
 go_wp2_with fail
 refine (((H.set 6 _).set 7 _).set 8 _).gob ?_;clear H F;intro wz H;dsimp only [upd] at H;have F:=H.f;dsimp only [Fac] at F
 refine bodyPost_ret (by simp [results,Tryz.results65,go_sem,F]) rfl ⟨rfl,?_⟩;exact H.B
set_option maxHeartbeats 4000000 in
theorem do_two_ill1 (o:Int) (a b a2 b2:Nat) (d d2:Int) (A Bh C D m n:Int) (rA:Rg A) (rB:Rg Bh) (rC:Rg C) (rD:Rg D) (he:m=0)
  (hNA : ∀ w,Calls Tryz.prog 93 #[.int .i64 o] w fun e w'=>e = .returned (.int .i64 2)∧Below w.heap.size w w')
  (hOA : ∀ w,Calls Tryz.prog 63 #[.agg #[.float .f64 (a),.float .f64 (b)],.int .i64 d] w fun e w'=>e = .returned (.agg #[.float .f64 (ofKey (A)),.float .f64 (ofKey (Bh)),.int .i64 (m)])∧Below w.heap.size w w')
  (hOB : ∀ w,Calls Tryz.prog 63 #[.agg #[.float .f64 (a2),.float .f64 (b2)],.int .i64 d2] w fun e w'=>e = .returned (.agg #[.float .f64 (ofKey (C)),.float .f64 (ofKey (D)),.int .i64 (n)])∧Below w.heap.size w w') (w:World) :
  Calls Tryz.prog 65 #[.int .i64 o,.agg #[.float .f64 (a),.float .f64 (b),.int .i64 (d)],.agg #[.float .f64 (a2),.float .f64 (b2),.int .i64 (d2)]] w fun e w'=>e = .returned (.agg #[.float .f64 (ofKey (PI)),.float .f64 (ofKey (-PI)),.int .i64 (0)])∧Below w.heap.size w w':=by
 have NA:=Lib.hid hNA
 have OA:=Lib.hid hOA
 have OB:=Lib.hid hOB
 clear hNA hOA hOB
 subst he
 go_enter Tryz.func65,Tryz.ntmps65
 go_wp2_with fail
 refine (NA.out _).mono ?_;rintro e w1 ⟨rfl,hb⟩
 have H:=Hold.i333.below hb;clear hb;have F:=H.f;dsimp only [Fac] at F
 go_wp2_with fail
 have k:=H.r;dsimp only [Reg] at k
 refine wp_region_below_tail 10 (by kernel_rfl) (by kernel_rfl) ?_
 simp only [List.take_succ_cons,List.take_zero,List.drop_succ_cons,List.drop_zero]
 repeat (go_big_quiet_step ((first|(with_reducible exact Calls.regrown_of (OA.out _))|(with_reducible exact Calls.regrown_of (OB.out _)))))
 refine wpQuiet_nil (fun w2 hb => ?_);clear k
 replace H:=H.below hb;clear hb;replace F:=H.f;dsimp only [Fac] at F
 iterate 8 go_step
 first|refine ((((((H.set 0 _).set 1 _).set 2 _).set 3 _).set 4 _).set 5 _).goc ?_|refine ((((((H.set 0 _).set 1 _).set 2 _).set 3 _).set 4 _).set 5 _).gol ?_|refine ((((((H.set 0 _).set 1 _).set 2 _).set 3 _).set 4 _).set 5 _).go ?_|refine ((((((H.set 0 _).set 1 _).set 2 _).set 3 _).set 4 _).set 5 _).gob ?_|refine ((((((H.set 0 _).set 1 _).set 2 _).set 3 _).set 4 _).set 5 _).gok ?_
 clear H F;intro w3 H;dsimp only [upd] at H;have F:=H.f;dsimp only [Fac] at F
 go_wp2_with fail
 refine (decoill_any _).mono ?_;rintro e w4 ⟨rfl,hb⟩
 replace H:=H.below hb;clear hb;replace F:=H.f;dsimp only [Fac] at F
 go_wp2_with fail
 refine (((H.set 6 _).set 7 _).set 8 _).gob ?_;clear H F;intro wz H;dsimp only [upd] at H;have F:=H.f;dsimp only [Fac] at F
 refine bodyPost_ret (by simp [results,Tryz.results65,go_sem,F]) rfl ⟨rfl,?_⟩;exact H.B
set_option maxHeartbeats 4000000 in
theorem do_two_ill2 (o:Int) (a b a2 b2:Nat) (d d2:Int) (A Bh C D m n:Int) (rA:Rg A) (rB:Rg Bh) (rC:Rg C) (rD:Rg D) (he : ¬m=0) (hf:n=0)
  (hNA : ∀ w,Calls Tryz.prog 93 #[.int .i64 o] w fun e w'=>e = .returned (.int .i64 2)∧Below w.heap.size w w')
  (hOA : ∀ w,Calls Tryz.prog 63 #[.agg #[.float .f64 (a),.float .f64 (b)],.int .i64 d] w fun e w'=>e = .returned (.agg #[.float .f64 (ofKey (A)),.float .f64 (ofKey (Bh)),.int .i64 (m)])∧Below w.heap.size w w')
  (hOB : ∀ w,Calls Tryz.prog 63 #[.agg #[.float .f64 (a2),.float .f64 (b2)],.int .i64 d2] w fun e w'=>e = .returned (.agg #[.float .f64 (ofKey (C)),.float .f64 (ofKey (D)),.int .i64 (n)])∧Below w.heap.size w w') (w:World) :
  Calls Tryz.prog 65 #[.int .i64 o,.agg #[.float .f64 (a),.float .f64 (b),.int .i64 (d)],.agg #[.float .f64 (a2),.float .f64 (b2),.int .i64 (d2)]] w fun e w'=>e = .returned (.agg #[.float .f64 (ofKey (PI)),.float .f64 (ofKey (-PI)),.int .i64 (0)])∧Below w.heap.size w w':=by
 have NA:=Lib.hid hNA
 have OA:=Lib.hid hOA
 have OB:=Lib.hid hOB
 clear hNA hOA hOB
 have bm:(m==0)=false:=by simpa using he
 subst hf
 go_enter Tryz.func65,Tryz.ntmps65
 go_wp2_with fail
 refine (NA.out _).mono ?_;rintro e w1 ⟨rfl,hb⟩
 have H:=Hold.i333.below hb;clear hb;have F:=H.f;dsimp only [Fac] at F
 go_wp2_with fail
 have k:=H.r;dsimp only [Reg] at k
 refine wp_region_below_tail 10 (by kernel_rfl) (by kernel_rfl) ?_
 simp only [List.take_succ_cons,List.take_zero,List.drop_succ_cons,List.drop_zero]
 repeat (go_big_quiet_step ((first|(with_reducible exact Calls.regrown_of (OA.out _))|(with_reducible exact Calls.regrown_of (OB.out _)))))
 refine wpQuiet_nil (fun w2 hb => ?_);clear k
 replace H:=H.below hb;clear hb;replace F:=H.f;dsimp only [Fac] at F
 iterate 8 go_step
 first|refine ((((((H.set 0 _).set 1 _).set 2 _).set 3 _).set 4 _).set 5 _).goc ?_|refine ((((((H.set 0 _).set 1 _).set 2 _).set 3 _).set 4 _).set 5 _).gol ?_|refine ((((((H.set 0 _).set 1 _).set 2 _).set 3 _).set 4 _).set 5 _).go ?_|refine ((((((H.set 0 _).set 1 _).set 2 _).set 3 _).set 4 _).set 5 _).gob ?_|refine ((((((H.set 0 _).set 1 _).set 2 _).set 3 _).set 4 _).set 5 _).gok ?_
 clear H F;intro w3 H;dsimp only [upd] at H;have F:=H.f;dsimp only [Fac] at F
 go_wp2_with fail
 refine (decoill_any _).mono ?_;rintro e w4 ⟨rfl,hb⟩
 replace H:=H.below hb;clear hb;replace F:=H.f;dsimp only [Fac] at F
 go_wp2_with fail
 refine (((H.set 6 _).set 7 _).set 8 _).gob ?_;clear H F;intro wz H;dsimp only [upd] at H;have F:=H.f;dsimp only [Fac] at F
 refine bodyPost_ret (by simp [results,Tryz.results65,go_sem,F]) rfl ⟨rfl,?_⟩;exact H.B
set_option maxHeartbeats 4000000 in
theorem do_two_e1 (o:Int) (a b a2 b2:Nat) (d d2:Int) (A Bh C D m n:Int) (rA:Rg A) (rB:Rg Bh) (rC:Rg C) (rD:Rg D) (X Y l:Int) (rX:Rg X) (rY:Rg Y) (he : ¬m=0) (hf : ¬n=0)
  (hNA : ∀ w,Calls Tryz.prog 93 #[.int .i64 o] w fun e w'=>e = .returned (.int .i64 2)∧Below w.heap.size w w')
  (hOA : ∀ w,Calls Tryz.prog 63 #[.agg #[.float .f64 (a),.float .f64 (b)],.int .i64 d] w fun e w'=>e = .returned (.agg #[.float .f64 (ofKey (A)),.float .f64 (ofKey (Bh)),.int .i64 (m)])∧Below w.heap.size w w')
  (hOB : ∀ w,Calls Tryz.prog 63 #[.agg #[.float .f64 (a2),.float .f64 (b2)],.int .i64 d2] w fun e w'=>e = .returned (.agg #[.float .f64 (ofKey (C)),.float .f64 (ofKey (D)),.int .i64 (n)])∧Below w.heap.size w w')
  (hAP : ∀ w,Calls Tryz.prog 54 #[.int .i64 o,.agg #[.float .f64 (ofKey (A)),.float .f64 (ofKey (Bh))],.agg #[.float .f64 (ofKey (C)),.float .f64 (ofKey (D))]] w fun e w'=>e = .returned (.agg #[.float .f64 (ofKey (X)),.float .f64 (ofKey (Y))])∧Below w.heap.size w w')
  (hNO : ∀ w,Calls Tryz.prog 50 #[.agg #[.float .f64 (ofKey (A)),.float .f64 (ofKey (Bh))]] w fun e w'=>e = .returned (.bool true)∧Below w.heap.size w w') (w:World) :
  Calls Tryz.prog 65 #[.int .i64 o,.agg #[.float .f64 (a),.float .f64 (b),.int .i64 (d)],.agg #[.float .f64 (a2),.float .f64 (b2),.int .i64 (d2)]] w fun e w'=>e = .returned (.agg #[.float .f64 (ofKey (X)),.float .f64 (ofKey (Y)),.int .i64 (min 1 (min m n))])∧Below w.heap.size w w':=by
 have NA:=Lib.hid hNA
 have OA:=Lib.hid hOA
 have OB:=Lib.hid hOB
 have AP:=Lib.hid hAP
 have NO:=Lib.hid hNO
 clear hNA hOA hOB hAP hNO
 have bm:(m==0)=false:=by simpa using he
 have bn:(n==0)=false:=by simpa using hf
 go_enter Tryz.func65,Tryz.ntmps65
 go_wp2_with fail
 refine (NA.out _).mono ?_;rintro e w1 ⟨rfl,hb⟩
 have H:=Hold.i333.below hb;clear hb;have F:=H.f;dsimp only [Fac] at F
 go_wp2_with fail
 have k:=H.r;dsimp only [Reg] at k
 refine wp_region_below_tail 10 (by kernel_rfl) (by kernel_rfl) ?_
 simp only [List.take_succ_cons,List.take_zero,List.drop_succ_cons,List.drop_zero]
 repeat (go_big_quiet_step ((first|(with_reducible exact Calls.regrown_of (OA.out _))|(with_reducible exact Calls.regrown_of (OB.out _)))))
 refine wpQuiet_nil (fun w2 hb => ?_);clear k
 replace H:=H.below hb;clear hb;replace F:=H.f;dsimp only [Fac] at F
 iterate 8 go_step
 first|refine ((((((H.set 0 _).set 1 _).set 2 _).set 3 _).set 4 _).set 5 _).goc ?_|refine ((((((H.set 0 _).set 1 _).set 2 _).set 3 _).set 4 _).set 5 _).gol ?_|refine ((((((H.set 0 _).set 1 _).set 2 _).set 3 _).set 4 _).set 5 _).go ?_|refine ((((((H.set 0 _).set 1 _).set 2 _).set 3 _).set 4 _).set 5 _).gob ?_|refine ((((((H.set 0 _).set 1 _).set 2 _).set 3 _).set 4 _).set 5 _).gok ?_
 clear H F;intro w3 H;dsimp only [upd] at H;have F:=H.f;dsimp only [Fac] at F
 go_wp2_with fail
 refine (AP.out _).mono ?_;rintro e w4 ⟨rfl,hb⟩
 replace H:=H.below hb;clear hb;replace F:=H.f;dsimp only [Fac] at F
 go_wp2_with fail
 refine (NO.out _).mono ?_;rintro e w5 ⟨rfl,hb⟩
 have n1:=H.lt;dsimp only [Lts] at n1
 replace H:=(H.new2 _ _ _).below hb;dsimp only [add] at H;clear hb;replace F:=H.f;dsimp only [Fac] at F
 go_wp2_with fail
 refine (((H.set 6 _).set 7 _).set 8 _).gob ?_;clear H F;intro wz H;dsimp only [upd] at H;have F:=H.f;dsimp only [Fac] at F
 refine bodyPost_ret (by simp [results,Tryz.results65,go_sem,F]) rfl ⟨rfl,?_⟩;exact H.B
set_option maxHeartbeats 4000000 in
theorem do_two_e2 (o:Int) (a b a2 b2:Nat) (d d2:Int) (A Bh C D m n:Int) (rA:Rg A) (rB:Rg Bh) (rC:Rg C) (rD:Rg D) (X Y l:Int) (rX:Rg X) (rY:Rg Y) (he : ¬m=0) (hf : ¬n=0)
  (hNA : ∀ w,Calls Tryz.prog 93 #[.int .i64 o] w fun e w'=>e = .returned (.int .i64 2)∧Below w.heap.size w w')
  (hOA : ∀ w,Calls Tryz.prog 63 #[.agg #[.float .f64 (a),.float .f64 (b)],.int .i64 d] w fun e w'=>e = .returned (.agg #[.float .f64 (ofKey (A)),.float .f64 (ofKey (Bh)),.int .i64 (m)])∧Below w.heap.size w w')
  (hOB : ∀ w,Calls Tryz.prog 63 #[.agg #[.float .f64 (a2),.float .f64 (b2)],.int .i64 d2] w fun e w'=>e = .returned (.agg #[.float .f64 (ofKey (C)),.float .f64 (ofKey (D)),.int .i64 (n)])∧Below w.heap.size w w')
  (hAP : ∀ w,Calls Tryz.prog 54 #[.int .i64 o,.agg #[.float .f64 (ofKey (A)),.float .f64 (ofKey (Bh))],.agg #[.float .f64 (ofKey (C)),.float .f64 (ofKey (D))]] w fun e w'=>e = .returned (.agg #[.float .f64 (ofKey (X)),.float .f64 (ofKey (Y))])∧Below w.heap.size w w')
  (hNO : ∀ w,Calls Tryz.prog 50 #[.agg #[.float .f64 (ofKey (A)),.float .f64 (ofKey (Bh))]] w fun e w'=>e = .returned (.bool false)∧Below w.heap.size w w')
  (hNP : ∀ w,Calls Tryz.prog 50 #[.agg #[.float .f64 (ofKey (C)),.float .f64 (ofKey (D))]] w fun e w'=>e = .returned (.bool true)∧Below w.heap.size w w') (w:World) :
  Calls Tryz.prog 65 #[.int .i64 o,.agg #[.float .f64 (a),.float .f64 (b),.int .i64 (d)],.agg #[.float .f64 (a2),.float .f64 (b2),.int .i64 (d2)]] w fun e w'=>e = .returned (.agg #[.float .f64 (ofKey (X)),.float .f64 (ofKey (Y)),.int .i64 (min 1 (min m n))])∧Below w.heap.size w w':=by
 have NA:=Lib.hid hNA
 have OA:=Lib.hid hOA
 have OB:=Lib.hid hOB
 have AP:=Lib.hid hAP
 have NO:=Lib.hid hNO
 have NP:=Lib.hid hNP
 clear hNA hOA hOB hAP hNO hNP
 have bm:(m==0)=false:=by simpa using he
 have bn:(n==0)=false:=by simpa using hf
 go_enter Tryz.func65,Tryz.ntmps65
 go_wp2_with fail
 refine (NA.out _).mono ?_;rintro e w1 ⟨rfl,hb⟩
 have H:=Hold.i333.below hb;clear hb;have F:=H.f;dsimp only [Fac] at F
 go_wp2_with fail
 have k:=H.r;dsimp only [Reg] at k
 refine wp_region_below_tail 10 (by kernel_rfl) (by kernel_rfl) ?_
 simp only [List.take_succ_cons,List.take_zero,List.drop_succ_cons,List.drop_zero]
 repeat (go_big_quiet_step ((first|(with_reducible exact Calls.regrown_of (OA.out _))|(with_reducible exact Calls.regrown_of (OB.out _)))))
 refine wpQuiet_nil (fun w2 hb => ?_);clear k
 replace H:=H.below hb;clear hb;replace F:=H.f;dsimp only [Fac] at F
 iterate 8 go_step
 first|refine ((((((H.set 0 _).set 1 _).set 2 _).set 3 _).set 4 _).set 5 _).goc ?_|refine ((((((H.set 0 _).set 1 _).set 2 _).set 3 _).set 4 _).set 5 _).gol ?_|refine ((((((H.set 0 _).set 1 _).set 2 _).set 3 _).set 4 _).set 5 _).go ?_|refine ((((((H.set 0 _).set 1 _).set 2 _).set 3 _).set 4 _).set 5 _).gob ?_|refine ((((((H.set 0 _).set 1 _).set 2 _).set 3 _).set 4 _).set 5 _).gok ?_
 clear H F;intro w3 H;dsimp only [upd] at H;have F:=H.f;dsimp only [Fac] at F
 go_wp2_with fail
 refine (AP.out _).mono ?_;rintro e w4 ⟨rfl,hb⟩
 replace H:=H.below hb;clear hb;replace F:=H.f;dsimp only [Fac] at F
 go_wp2_with fail
 refine (NO.out _).mono ?_;rintro e w5 ⟨rfl,hb⟩
 have n1:=H.lt;dsimp only [Lts] at n1
 replace H:=(H.new2 _ _ _).below hb;dsimp only [add] at H;clear hb;replace F:=H.f;dsimp only [Fac] at F
 go_wp2_with fail
 refine (NP.out _).mono ?_;rintro e w6 ⟨rfl,hb⟩
 replace H:=H.below hb;clear hb;replace F:=H.f;dsimp only [Fac] at F
 go_wp2_with fail
 refine (((H.set 6 _).set 7 _).set 8 _).gob ?_;clear H F;intro wz H;dsimp only [upd] at H;have F:=H.f;dsimp only [Fac] at F
 refine bodyPost_ret (by simp [results,Tryz.results65,go_sem,F]) rfl ⟨rfl,?_⟩;exact H.B
set_option maxHeartbeats 4000000 in
theorem do_two (o:Int) (a b a2 b2:Nat) (d d2:Int) (A Bh C D m n:Int) (rA:Rg A) (rB:Rg Bh) (rC:Rg C) (rD:Rg D) (X Y l:Int) (rX:Rg X) (rY:Rg Y) (he : ¬m=0) (hf : ¬n=0)
  (hNA : ∀ w,Calls Tryz.prog 93 #[.int .i64 o] w fun e w'=>e = .returned (.int .i64 2)∧Below w.heap.size w w')
  (hOA : ∀ w,Calls Tryz.prog 63 #[.agg #[.float .f64 (a),.float .f64 (b)],.int .i64 d] w fun e w'=>e = .returned (.agg #[.float .f64 (ofKey (A)),.float .f64 (ofKey (Bh)),.int .i64 (m)])∧Below w.heap.size w w')
  (hOB : ∀ w,Calls Tryz.prog 63 #[.agg #[.float .f64 (a2),.float .f64 (b2)],.int .i64 d2] w fun e w'=>e = .returned (.agg #[.float .f64 (ofKey (C)),.float .f64 (ofKey (D)),.int .i64 (n)])∧Below w.heap.size w w')
  (hAP : ∀ w,Calls Tryz.prog 54 #[.int .i64 o,.agg #[.float .f64 (ofKey (A)),.float .f64 (ofKey (Bh))],.agg #[.float .f64 (ofKey (C)),.float .f64 (ofKey (D))]] w fun e w'=>e = .returned (.agg #[.float .f64 (ofKey (X)),.float .f64 (ofKey (Y))])∧Below w.heap.size w w')
  (hNO : ∀ w,Calls Tryz.prog 50 #[.agg #[.float .f64 (ofKey (A)),.float .f64 (ofKey (Bh))]] w fun e w'=>e = .returned (.bool false)∧Below w.heap.size w w')
  (hNP : ∀ w,Calls Tryz.prog 50 #[.agg #[.float .f64 (ofKey (C)),.float .f64 (ofKey (D))]] w fun e w'=>e = .returned (.bool false)∧Below w.heap.size w w')
  (hLO : ∀ w,Calls Tryz.prog 94 #[.int .i64 o,.agg #[.float .f64 (ofKey (A)),.float .f64 (ofKey (Bh))],.agg #[.float .f64 (ofKey (C)),.float .f64 (ofKey (D))],.agg #[.float .f64 (ofKey (X)),.float .f64 (ofKey (Y))]] w fun e w'=>e = .returned (.int .i64 l)∧Below w.heap.size w w') (w:World) :
  Calls Tryz.prog 65 #[.int .i64 o,.agg #[.float .f64 (a),.float .f64 (b),.int .i64 (d)],.agg #[.float .f64 (a2),.float .f64 (b2),.int .i64 (d2)]] w fun e w'=>e = .returned (.agg #[.float .f64 (ofKey (X)),.float .f64 (ofKey (Y)),.int .i64 (min l (min m n))])∧Below w.heap.size w w':=by
 have NA:=Lib.hid hNA
 have OA:=Lib.hid hOA
 have OB:=Lib.hid hOB
 have AP:=Lib.hid hAP
 have NO:=Lib.hid hNO
 have NP:=Lib.hid hNP
 have LO:=Lib.hid hLO
 clear hNA hOA hOB hAP hNO hNP hLO
 have bm:(m==0)=false:=by simpa using he
 have bn:(n==0)=false:=by simpa using hf
 go_enter Tryz.func65,Tryz.ntmps65
 go_wp2_with fail
 refine (NA.out _).mono ?_;rintro e w1 ⟨rfl,hb⟩
 have H:=Hold.i333.below hb;clear hb;have F:=H.f;dsimp only [Fac] at F
 go_wp2_with fail
 have k:=H.r;dsimp only [Reg] at k
 refine wp_region_below_tail 10 (by kernel_rfl) (by kernel_rfl) ?_
 simp only [List.take_succ_cons,List.take_zero,List.drop_succ_cons,List.drop_zero]
 repeat (go_big_quiet_step ((first|(with_reducible exact Calls.regrown_of (OA.out _))|(with_reducible exact Calls.regrown_of (OB.out _)))))
 refine wpQuiet_nil (fun w2 hb => ?_);clear k
 replace H:=H.below hb;clear hb;replace F:=H.f;dsimp only [Fac] at F
 iterate 8 go_step
 first|refine ((((((H.set 0 _).set 1 _).set 2 _).set 3 _).set 4 _).set 5 _).goc ?_|refine ((((((H.set 0 _).set 1 _).set 2 _).set 3 _).set 4 _).set 5 _).gol ?_|refine ((((((H.set 0 _).set 1 _).set 2 _).set 3 _).set 4 _).set 5 _).go ?_|refine ((((((H.set 0 _).set 1 _).set 2 _).set 3 _).set 4 _).set 5 _).gob ?_|refine ((((((H.set 0 _).set 1 _).set 2 _).set 3 _).set 4 _).set 5 _).gok ?_
 clear H F;intro w3 H;dsimp only [upd] at H;have F:=H.f;dsimp only [Fac] at F
 go_wp2_with fail
 refine (AP.out _).mono ?_;rintro e w4 ⟨rfl,hb⟩
 replace H:=H.below hb;clear hb;replace F:=H.f;dsimp only [Fac] at F
 go_wp2_with fail
 refine (NO.out _).mono ?_;rintro e w5 ⟨rfl,hb⟩
 have n1:=H.lt;dsimp only [Lts] at n1
 replace H:=(H.new2 _ _ _).below hb;dsimp only [add] at H;clear hb;replace F:=H.f;dsimp only [Fac] at F
 go_wp2_with fail
 refine (NP.out _).mono ?_;rintro e w6 ⟨rfl,hb⟩
 replace H:=H.below hb;clear hb;replace F:=H.f;dsimp only [Fac] at F
 go_wp2_with fail
 refine (LO.out _).mono ?_;rintro e w7 ⟨rfl,hb⟩
 replace H:=H.below hb;clear hb;replace F:=H.f;dsimp only [Fac] at F
 go_wp2_with fail
 refine (((H.set 6 _).set 7 _).set 8 _).gob ?_;clear H F;intro wz H;dsimp only [upd] at H;have F:=H.f;dsimp only [Fac] at F
 refine bodyPost_ret (by simp [results,Tryz.results65,go_sem,F]) rfl ⟨rfl,?_⟩;exact H.B
set_option maxHeartbeats 4000000 in
theorem do_one_ill (o:Int) (a b a2 b2:Nat) (d d2:Int) (A Bh C D m n:Int) (rA:Rg A) (rB:Rg Bh) (rC:Rg C) (rD:Rg D) (he:m=0)
  (hNA : ∀ w,Calls Tryz.prog 93 #[.int .i64 o] w fun e w'=>e = .returned (.int .i64 1)∧Below w.heap.size w w')
  (hOA : ∀ w,Calls Tryz.prog 63 #[.agg #[.float .f64 (a),.float .f64 (b)],.int .i64 d] w fun e w'=>e = .returned (.agg #[.float .f64 (ofKey (A)),.float .f64 (ofKey (Bh)),.int .i64 (m)])∧Below w.heap.size w w')
  (hOB : ∀ w,Calls Tryz.prog 63 #[.agg #[.float .f64 (a2),.float .f64 (b2)],.int .i64 d2] w fun e w'=>e = .returned (.agg #[.float .f64 (ofKey (C)),.float .f64 (ofKey (D)),.int .i64 (n)])∧Below w.heap.size w w') (w:World) :
  Calls Tryz.prog 65 #[.int .i64 o,.agg #[.float .f64 (a),.float .f64 (b),.int .i64 (d)],.agg #[.float .f64 (a2),.float .f64 (b2),.int .i64 (d2)]] w fun e w'=>e = .returned (.agg #[.float .f64 (ofKey (PI)),.float .f64 (ofKey (-PI)),.int .i64 (0)])∧Below w.heap.size w w':=by
 have NA:=Lib.hid hNA
 have OA:=Lib.hid hOA
 have OB:=Lib.hid hOB
 clear hNA hOA hOB
 subst he
 go_enter Tryz.func65,Tryz.ntmps65
 go_wp2_with fail
 refine (NA.out _).mono ?_;rintro e w1 ⟨rfl,hb⟩
 have H:=Hold.i333.below hb;clear hb;have F:=H.f;dsimp only [Fac] at F
 go_wp2_with fail
 have k:=H.r;dsimp only [Reg] at k
 refine wp_region_below_tail 10 (by kernel_rfl) (by kernel_rfl) ?_
 simp only [List.take_succ_cons,List.take_zero,List.drop_succ_cons,List.drop_zero]
 repeat (go_big_quiet_step ((first|(with_reducible exact Calls.regrown_of (OA.out _))|(with_reducible exact Calls.regrown_of (OB.out _)))))
 refine wpQuiet_nil (fun w2 hb => ?_);clear k
 replace H:=H.below hb;clear hb;replace F:=H.f;dsimp only [Fac] at F
 iterate 8 go_step
 first|refine ((((((H.set 0 _).set 1 _).set 2 _).set 3 _).set 4 _).set 5 _).goc ?_|refine ((((((H.set 0 _).set 1 _).set 2 _).set 3 _).set 4 _).set 5 _).gol ?_|refine ((((((H.set 0 _).set 1 _).set 2 _).set 3 _).set 4 _).set 5 _).go ?_|refine ((((((H.set 0 _).set 1 _).set 2 _).set 3 _).set 4 _).set 5 _).gob ?_|refine ((((((H.set 0 _).set 1 _).set 2 _).set 3 _).set 4 _).set 5 _).gok ?_
 clear H F;intro w3 H;dsimp only [upd] at H;have F:=H.f;dsimp only [Fac] at F
 go_wp2_with fail
 first|refine (((H.set 3 _).set 4 _).set 5 _).goc ?_|refine (((H.set 3 _).set 4 _).set 5 _).gol ?_|refine (((H.set 3 _).set 4 _).set 5 _).go ?_|refine (((H.set 3 _).set 4 _).set 5 _).gob ?_|refine (((H.set 3 _).set 4 _).set 5 _).gok ?_
 clear H F;intro w4 H;dsimp only [upd] at H;have F:=H.f;dsimp only [Fac] at F
 go_wp2_with fail
 refine (decoill_any _).mono ?_;rintro e w5 ⟨rfl,hb⟩
 replace H:=H.below hb;clear hb;replace F:=H.f;dsimp only [Fac] at F
 go_wp2_with fail
 refine (((H.set 6 _).set 7 _).set 8 _).gob ?_;clear H F;intro wz H;dsimp only [upd] at H;have F:=H.f;dsimp only [Fac] at F
 refine bodyPost_ret (by simp [results,Tryz.results65,go_sem,F]) rfl ⟨rfl,?_⟩;exact H.B
set_option maxHeartbeats 4000000 in
theorem do_one_e (o:Int) (a b a2 b2:Nat) (d d2:Int) (A Bh C D m n:Int) (rA:Rg A) (rB:Rg Bh) (rC:Rg C) (rD:Rg D) (X Y l:Int) (rX:Rg X) (rY:Rg Y) (he : ¬m=0)
  (hNA : ∀ w,Calls Tryz.prog 93 #[.int .i64 o] w fun e w'=>e = .returned (.int .i64 1)∧Below w.heap.size w w')
  (hOA : ∀ w,Calls Tryz.prog 63 #[.agg #[.float .f64 (a),.float .f64 (b)],.int .i64 d] w fun e w'=>e = .returned (.agg #[.float .f64 (ofKey (A)),.float .f64 (ofKey (Bh)),.int .i64 (m)])∧Below w.heap.size w w')
  (hOB : ∀ w,Calls Tryz.prog 63 #[.agg #[.float .f64 (a2),.float .f64 (b2)],.int .i64 d2] w fun e w'=>e = .returned (.agg #[.float .f64 (ofKey (C)),.float .f64 (ofKey (D)),.int .i64 (n)])∧Below w.heap.size w w')
  (hAP : ∀ w,Calls Tryz.prog 54 #[.int .i64 o,.agg #[.float .f64 (ofKey (A)),.float .f64 (ofKey (Bh))],.agg #[.float .f64 (ofKey (A)),.float .f64 (ofKey (Bh))]] w fun e w'=>e = .returned (.agg #[.float .f64 (ofKey (X)),.float .f64 (ofKey (Y))])∧Below w.heap.size w w')
  (hNO : ∀ w,Calls Tryz.prog 50 #[.agg #[.float .f64 (ofKey (A)),.float .f64 (ofKey (Bh))]] w fun e w'=>e = .returned (.bool true)∧Below w.heap.size w w') (w:World) :
  Calls Tryz.prog 65 #[.int .i64 o,.agg #[.float .f64 (a),.float .f64 (b),.int .i64 (d)],.agg #[.float .f64 (a2),.float .f64 (b2),.int .i64 (d2)]] w fun e w'=>e = .returned (.agg #[.float .f64 (ofKey (X)),.float .f64 (ofKey (Y)),.int .i64 (min 1 m)])∧Below w.heap.size w w':=by
 have NA:=Lib.hid hNA
 have OA:=Lib.hid hOA
 have OB:=Lib.hid hOB
 have AP:=Lib.hid hAP
 have NO:=Lib.hid hNO
 clear hNA hOA hOB hAP hNO
 have bm:(m==0)=false:=by simpa using he
 go_enter Tryz.func65,Tryz.ntmps65
 go_wp2_with fail
 refine (NA.out _).mono ?_;rintro e w1 ⟨rfl,hb⟩
 have H:=Hold.i333.below hb;clear hb;have F:=H.f;dsimp only [Fac] at F
 go_wp2_with fail
 have k:=H.r;dsimp only [Reg] at k
 refine wp_region_below_tail 10 (by kernel_rfl) (by kernel_rfl) ?_
 simp only [List.take_succ_cons,List.take_zero,List.drop_succ_cons,List.drop_zero]
 repeat (go_big_quiet_step ((first|(with_reducible exact Calls.regrown_of (OA.out _))|(with_reducible exact Calls.regrown_of (OB.out _)))))
 refine wpQuiet_nil (fun w2 hb => ?_);clear k
 replace H:=H.below hb;clear hb;replace F:=H.f;dsimp only [Fac] at F
 iterate 8 go_step
 first|refine ((((((H.set 0 _).set 1 _).set 2 _).set 3 _).set 4 _).set 5 _).goc ?_|refine ((((((H.set 0 _).set 1 _).set 2 _).set 3 _).set 4 _).set 5 _).gol ?_|refine ((((((H.set 0 _).set 1 _).set 2 _).set 3 _).set 4 _).set 5 _).go ?_|refine ((((((H.set 0 _).set 1 _).set 2 _).set 3 _).set 4 _).set 5 _).gob ?_|refine ((((((H.set 0 _).set 1 _).set 2 _).set 3 _).set 4 _).set 5 _).gok ?_
 clear H F;intro w3 H;dsimp only [upd] at H;have F:=H.f;dsimp only [Fac] at F
 go_wp2_with fail
 refine (((H.set 3 _).set 4 _).set 5 _).goc ?_;clear H F;intro w4 H;dsimp only [upd] at H;have F:=H.f;dsimp only [Fac] at F
 refine (AP.out _).mono ?_;rintro e w5 ⟨rfl,hb⟩
 replace H:=H.below hb;clear hb;replace F:=H.f;dsimp only [Fac] at F
 go_wp2_with fail
 refine (NO.out _).mono ?_;rintro e w6 ⟨rfl,hb⟩
 have n1:=H.lt;dsimp only [Lts] at n1
 replace H:=(H.new2 _ _ _).below hb;dsimp only [add] at H;clear hb;replace F:=H.f;dsimp only [Fac] at F
 go_wp2_with fail
 refine (((H.set 6 _).set 7 _).set 8 _).gob ?_;clear H F;intro wz H;dsimp only [upd] at H;have F:=H.f;dsimp only [Fac] at F
 refine bodyPost_ret (by simp [results,Tryz.results65,go_sem,F]) rfl ⟨rfl,?_⟩;exact H.B
set_option maxHeartbeats 4000000 in
theorem do_one (o:Int) (a b a2 b2:Nat) (d d2:Int) (A Bh C D m n:Int) (rA:Rg A) (rB:Rg Bh) (rC:Rg C) (rD:Rg D) (X Y l:Int) (rX:Rg X) (rY:Rg Y) (he : ¬m=0)
  (hNA : ∀ w,Calls Tryz.prog 93 #[.int .i64 o] w fun e w'=>e = .returned (.int .i64 1)∧Below w.heap.size w w')
  (hOA : ∀ w,Calls Tryz.prog 63 #[.agg #[.float .f64 (a),.float .f64 (b)],.int .i64 d] w fun e w'=>e = .returned (.agg #[.float .f64 (ofKey (A)),.float .f64 (ofKey (Bh)),.int .i64 (m)])∧Below w.heap.size w w')
  (hOB : ∀ w,Calls Tryz.prog 63 #[.agg #[.float .f64 (a2),.float .f64 (b2)],.int .i64 d2] w fun e w'=>e = .returned (.agg #[.float .f64 (ofKey (C)),.float .f64 (ofKey (D)),.int .i64 (n)])∧Below w.heap.size w w')
  (hAP : ∀ w,Calls Tryz.prog 54 #[.int .i64 o,.agg #[.float .f64 (ofKey (A)),.float .f64 (ofKey (Bh))],.agg #[.float .f64 (ofKey (A)),.float .f64 (ofKey (Bh))]] w fun e w'=>e = .returned (.agg #[.float .f64 (ofKey (X)),.float .f64 (ofKey (Y))])∧Below w.heap.size w w')
  (hNO : ∀ w,Calls Tryz.prog 50 #[.agg #[.float .f64 (ofKey (A)),.float .f64 (ofKey (Bh))]] w fun e w'=>e = .returned (.bool false)∧Below w.heap.size w w')
  (hLO : ∀ w,Calls Tryz.prog 94 #[.int .i64 o,.agg #[.float .f64 (ofKey (A)),.float .f64 (ofKey (Bh))],.agg #[.float .f64 (ofKey (A)),.float .f64 (ofKey (Bh))],.agg #[.float .f64 (ofKey (X)),.float .f64 (ofKey (Y))]] w fun e w'=>e = .returned (.int .i64 l)∧Below w.heap.size w w') (w:World) :
  Calls Tryz.prog 65 #[.int .i64 o,.agg #[.float .f64 (a),.float .f64 (b),.int .i64 (d)],.agg #[.float .f64 (a2),.float .f64 (b2),.int .i64 (d2)]] w fun e w'=>e = .returned (.agg #[.float .f64 (ofKey (X)),.float .f64 (ofKey (Y)),.int .i64 (min l m)])∧Below w.heap.size w w':=by
 have NA:=Lib.hid hNA
 have OA:=Lib.hid hOA
 have OB:=Lib.hid hOB
 have AP:=Lib.hid hAP
 have NO:=Lib.hid hNO
 have LO:=Lib.hid hLO
 clear hNA hOA hOB hAP hNO hLO
 have bm:(m==0)=false:=by simpa using he
 go_enter Tryz.func65,Tryz.ntmps65
 go_wp2_with fail
 refine (NA.out _).mono ?_;rintro e w1 ⟨rfl,hb⟩
 have H:=Hold.i333.below hb;clear hb;have F:=H.f;dsimp only [Fac] at F
 go_wp2_with fail
 have k:=H.r;dsimp only [Reg] at k
 refine wp_region_below_tail 10 (by kernel_rfl) (by kernel_rfl) ?_
 simp only [List.take_succ_cons,List.take_zero,List.drop_succ_cons,List.drop_zero]
 repeat (go_big_quiet_step ((first|(with_reducible exact Calls.regrown_of (OA.out _))|(with_reducible exact Calls.regrown_of (OB.out _)))))
 refine wpQuiet_nil (fun w2 hb => ?_);clear k
 replace H:=H.below hb;clear hb;replace F:=H.f;dsimp only [Fac] at F
 iterate 8 go_step
 first|refine ((((((H.set 0 _).set 1 _).set 2 _).set 3 _).set 4 _).set 5 _).goc ?_|refine ((((((H.set 0 _).set 1 _).set 2 _).set 3 _).set 4 _).set 5 _).gol ?_|refine ((((((H.set 0 _).set 1 _).set 2 _).set 3 _).set 4 _).set 5 _).go ?_|refine ((((((H.set 0 _).set 1 _).set 2 _).set 3 _).set 4 _).set 5 _).gob ?_|refine ((((((H.set 0 _).set 1 _).set 2 _).set 3 _).set 4 _).set 5 _).gok ?_
 clear H F;intro w3 H;dsimp only [upd] at H;have F:=H.f;dsimp only [Fac] at F
 go_wp2_with fail
 refine (((H.set 3 _).set 4 _).set 5 _).goc ?_;clear H F;intro w4 H;dsimp only [upd] at H;have F:=H.f;dsimp only [Fac] at F
 refine (AP.out _).mono ?_;rintro e w5 ⟨rfl,hb⟩
 replace H:=H.below hb;clear hb;replace F:=H.f;dsimp only [Fac] at F
 go_wp2_with fail
 refine (NO.out _).mono ?_;rintro e w6 ⟨rfl,hb⟩
 have n1:=H.lt;dsimp only [Lts] at n1
 replace H:=(H.new2 _ _ _).below hb;dsimp only [add] at H;clear hb;replace F:=H.f;dsimp only [Fac] at F
 go_wp2_with fail
 refine (NO.out _).mono ?_;rintro e w7 ⟨rfl,hb⟩
 replace H:=H.below hb;clear hb;replace F:=H.f;dsimp only [Fac] at F
 go_wp2_with fail
 refine (LO.out _).mono ?_;rintro e w8 ⟨rfl,hb⟩
 replace H:=H.below hb;clear hb;replace F:=H.f;dsimp only [Fac] at F
 go_wp2_with fail
 refine (((H.set 6 _).set 7 _).set 8 _).gob ?_;clear H F;intro wz H;dsimp only [upd] at H;have F:=H.f;dsimp only [Fac] at F
 refine bodyPost_ret (by simp [results,Tryz.results65,go_sem,F]) rfl ⟨rfl,?_⟩;exact H.B
end Go.Proofs.YteephgpefhodnaaGreat
