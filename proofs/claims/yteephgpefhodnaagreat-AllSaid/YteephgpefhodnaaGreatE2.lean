/- The document's Do. -/
import Derived.Test.YteephgpefhodnaaGreatE1
import Derived.Test.YteephgpefhodnaaGreatG6
import Derived.Test.YteephgpefhodnaaGreatD4
namespace Go.Proofs.YteephgpefhodnaaGreat
open Go.RowKit Go.Sort Go.Fl
set_option linter.unusedSimpArgs false
set_option linter.unusedVariables false
set_option maxRecDepth 4000 in
set_option maxHeartbeats 2000000 in
theorem rdo_lo (o:Int) (a b a2 b2:Nat) (d d2:Int) (A Bh C D m n:Int) (rA:Rg A) (rB:Rg Bh) (rC:Rg C) (rD:Rg D) (ho:o<0) 
  (hOA : ∀ w,Calls Tryz.prog 31 #[.agg #[.float .f64 (a),.float .f64 (b)],.int .i64 d] w fun e w'=>e = .returned (.agg #[.float .f64 (ofKey (A)),.float .f64 (ofKey (Bh)),.int .i64 (m)])∧Below w.heap.size w w')
  (hOB : ∀ w,Calls Tryz.prog 31 #[.agg #[.float .f64 (a2),.float .f64 (b2)],.int .i64 d2] w fun e w'=>e = .returned (.agg #[.float .f64 (ofKey (C)),.float .f64 (ofKey (D)),.int .i64 (n)])∧Below w.heap.size w w') (w:World) :
  Calls Tryz.prog 34 #[.int .i64 o,.agg #[.float .f64 (a),.float .f64 (b),.int .i64 (d)],.agg #[.float .f64 (a2),.float .f64 (b2),.int .i64 (d2)]] w fun e w'=>e = .returned (.agg #[.float .f64 (ofKey (PI)),.float .f64 (ofKey (-PI)),.int .i64 (0)])∧Below w.heap.size w w':=by
 have OA:=Lib.hid hOA
 have OB:=Lib.hid hOB
 clear hOA hOB
 go_enter Tryz.func34,Tryz.ntmps34
 go_wp2_with fail
 refine (refempty_any _).mono ?_;rintro e w1 ⟨rfl,hb⟩
 have H:=Hold.i333.below hb;clear hb;have F:=H.f;dsimp only [Fac] at F
 go_wp2_with fail
 have n1:=H.lt;dsimp only [Lts] at n1
 refine (H.new3 _ _ _ _).goc ?_;clear H F;intro w2 H;dsimp only [add] at H;have F:=H.f;dsimp only [Fac] at F
 refine (OA.out _).mono ?_;rintro e w3 ⟨rfl,hb⟩
 replace H:=H.below hb;clear hb;replace F:=H.f;dsimp only [Fac] at F
 go_wp2_with fail
 refine (((H.set 0 _).set 1 _).set 2 _).goc ?_;clear H F;intro w4 H;dsimp only [upd] at H;have F:=H.f;dsimp only [Fac] at F
 refine (OB.out _).mono ?_;rintro e w5 ⟨rfl,hb⟩
 replace H:=H.below hb;clear hb;replace F:=H.f;dsimp only [Fac] at F
 go_wp2_with fail
 refine ((((((H.set 3 _).set 4 _).set 5 _).set 6 _).set 7 _).set 8 _).gob ?_;clear H F;intro wz H;dsimp only [upd] at H;have F:=H.f;dsimp only [Fac] at F
 refine bodyPost_ret (by simp [results,Tryz.results34,go_sem,F]) rfl ⟨rfl,?_⟩;exact H.B
set_option maxRecDepth 4000 in
set_option maxHeartbeats 2000000 in
theorem rdo_hi (o:Int) (a b a2 b2:Nat) (d d2:Int) (A Bh C D m n:Int) (rA:Rg A) (rB:Rg Bh) (rC:Rg C) (rD:Rg D) (ho:11<o) 
  (hOA : ∀ w,Calls Tryz.prog 31 #[.agg #[.float .f64 (a),.float .f64 (b)],.int .i64 d] w fun e w'=>e = .returned (.agg #[.float .f64 (ofKey (A)),.float .f64 (ofKey (Bh)),.int .i64 (m)])∧Below w.heap.size w w')
  (hOB : ∀ w,Calls Tryz.prog 31 #[.agg #[.float .f64 (a2),.float .f64 (b2)],.int .i64 d2] w fun e w'=>e = .returned (.agg #[.float .f64 (ofKey (C)),.float .f64 (ofKey (D)),.int .i64 (n)])∧Below w.heap.size w w') (w:World) :
  Calls Tryz.prog 34 #[.int .i64 o,.agg #[.float .f64 (a),.float .f64 (b),.int .i64 (d)],.agg #[.float .f64 (a2),.float .f64 (b2),.int .i64 (d2)]] w fun e w'=>e = .returned (.agg #[.float .f64 (ofKey (PI)),.float .f64 (ofKey (-PI)),.int .i64 (0)])∧Below w.heap.size w w':=by
 have OA:=Lib.hid hOA
 have OB:=Lib.hid hOB
 clear hOA hOB
 go_enter Tryz.func34,Tryz.ntmps34
 go_wp2_with fail
 refine (refempty_any _).mono ?_;rintro e w1 ⟨rfl,hb⟩
 have H:=Hold.i333.below hb;clear hb;have F:=H.f;dsimp only [Fac] at F
 go_wp2_with fail
 have n1:=H.lt;dsimp only [Lts] at n1
 refine (H.new3 _ _ _ _).goc ?_;clear H F;intro w2 H;dsimp only [add] at H;have F:=H.f;dsimp only [Fac] at F
 refine (OA.out _).mono ?_;rintro e w3 ⟨rfl,hb⟩
 replace H:=H.below hb;clear hb;replace F:=H.f;dsimp only [Fac] at F
 go_wp2_with fail
 refine (((H.set 0 _).set 1 _).set 2 _).goc ?_;clear H F;intro w4 H;dsimp only [upd] at H;have F:=H.f;dsimp only [Fac] at F
 refine (OB.out _).mono ?_;rintro e w5 ⟨rfl,hb⟩
 replace H:=H.below hb;clear hb;replace F:=H.f;dsimp only [Fac] at F
 go_wp2_with fail
 refine ((((((H.set 3 _).set 4 _).set 5 _).set 6 _).set 7 _).set 8 _).gob ?_;clear H F;intro wz H;dsimp only [upd] at H;have F:=H.f;dsimp only [Fac] at F
 refine bodyPost_ret (by simp [results,Tryz.results34,go_sem,F]) rfl ⟨rfl,?_⟩;exact H.B
set_option maxRecDepth 4000 in
set_option maxHeartbeats 2000000 in
theorem rdo_m (o:Int) (a b a2 b2:Nat) (d d2:Int) (A Bh C D m n:Int) (rA:Rg A) (rB:Rg Bh) (rC:Rg C) (rD:Rg D) (ho:0≤o∧o≤11) (hm:m=0) 
  (hOA : ∀ w,Calls Tryz.prog 31 #[.agg #[.float .f64 (a),.float .f64 (b)],.int .i64 d] w fun e w'=>e = .returned (.agg #[.float .f64 (ofKey (A)),.float .f64 (ofKey (Bh)),.int .i64 (m)])∧Below w.heap.size w w')
  (hOB : ∀ w,Calls Tryz.prog 31 #[.agg #[.float .f64 (a2),.float .f64 (b2)],.int .i64 d2] w fun e w'=>e = .returned (.agg #[.float .f64 (ofKey (C)),.float .f64 (ofKey (D)),.int .i64 (n)])∧Below w.heap.size w w') (w:World) :
  Calls Tryz.prog 34 #[.int .i64 o,.agg #[.float .f64 (a),.float .f64 (b),.int .i64 (d)],.agg #[.float .f64 (a2),.float .f64 (b2),.int .i64 (d2)]] w fun e w'=>e = .returned (.agg #[.float .f64 (ofKey (PI)),.float .f64 (ofKey (-PI)),.int .i64 (0)])∧Below w.heap.size w w':=by
 obtain ⟨o1,o2⟩:=ho
 have OA:=Lib.hid hOA
 have OB:=Lib.hid hOB
 clear hOA hOB
 subst hm
 go_enter Tryz.func34,Tryz.ntmps34
 go_wp2_with fail
 refine (refempty_any _).mono ?_;rintro e w1 ⟨rfl,hb⟩
 have H:=Hold.i333.below hb;clear hb;have F:=H.f;dsimp only [Fac] at F
 go_wp2_with fail
 have n1:=H.lt;dsimp only [Lts] at n1
 refine (H.new3 _ _ _ _).goc ?_;clear H F;intro w2 H;dsimp only [add] at H;have F:=H.f;dsimp only [Fac] at F
 refine (OA.out _).mono ?_;rintro e w3 ⟨rfl,hb⟩
 replace H:=H.below hb;clear hb;replace F:=H.f;dsimp only [Fac] at F
 go_wp2_with fail
 refine (((H.set 0 _).set 1 _).set 2 _).goc ?_;clear H F;intro w4 H;dsimp only [upd] at H;have F:=H.f;dsimp only [Fac] at F
 refine (OB.out _).mono ?_;rintro e w5 ⟨rfl,hb⟩
 replace H:=H.below hb;clear hb;replace F:=H.f;dsimp only [Fac] at F
 go_wp2_with fail
 refine ((((((H.set 3 _).set 4 _).set 5 _).set 6 _).set 7 _).set 8 _).gob ?_;clear H F;intro wz H;dsimp only [upd] at H;have F:=H.f;dsimp only [Fac] at F
 refine bodyPost_ret (by simp [results,Tryz.results34,go_sem,F]) rfl ⟨rfl,?_⟩;exact H.B
set_option maxRecDepth 4000 in
set_option maxHeartbeats 2000000 in
theorem rdo_n (o:Int) (a b a2 b2:Nat) (d d2:Int) (A Bh C D m n:Int) (rA:Rg A) (rB:Rg Bh) (rC:Rg C) (rD:Rg D) (ho:6≤o∧o≤11) (hm : ¬m=0) (hn:n=0) 
  (hOA : ∀ w,Calls Tryz.prog 31 #[.agg #[.float .f64 (a),.float .f64 (b)],.int .i64 d] w fun e w'=>e = .returned (.agg #[.float .f64 (ofKey (A)),.float .f64 (ofKey (Bh)),.int .i64 (m)])∧Below w.heap.size w w')
  (hOB : ∀ w,Calls Tryz.prog 31 #[.agg #[.float .f64 (a2),.float .f64 (b2)],.int .i64 d2] w fun e w'=>e = .returned (.agg #[.float .f64 (ofKey (C)),.float .f64 (ofKey (D)),.int .i64 (n)])∧Below w.heap.size w w') (w:World) :
  Calls Tryz.prog 34 #[.int .i64 o,.agg #[.float .f64 (a),.float .f64 (b),.int .i64 (d)],.agg #[.float .f64 (a2),.float .f64 (b2),.int .i64 (d2)]] w fun e w'=>e = .returned (.agg #[.float .f64 (ofKey (PI)),.float .f64 (ofKey (-PI)),.int .i64 (0)])∧Below w.heap.size w w':=by
 obtain ⟨o1,o2⟩:=ho
 have OA:=Lib.hid hOA
 have OB:=Lib.hid hOB
 clear hOA hOB
 have bm:(m==0)=false:=by simpa using hm
 subst hn
 go_enter Tryz.func34,Tryz.ntmps34
 go_wp2_with fail
 refine (refempty_any _).mono ?_;rintro e w1 ⟨rfl,hb⟩
 have H:=Hold.i333.below hb;clear hb;have F:=H.f;dsimp only [Fac] at F
 go_wp2_with fail
 have n1:=H.lt;dsimp only [Lts] at n1
 refine (H.new3 _ _ _ _).goc ?_;clear H F;intro w2 H;dsimp only [add] at H;have F:=H.f;dsimp only [Fac] at F
 refine (OA.out _).mono ?_;rintro e w3 ⟨rfl,hb⟩
 replace H:=H.below hb;clear hb;replace F:=H.f;dsimp only [Fac] at F
 go_wp2_with fail
 refine (((H.set 0 _).set 1 _).set 2 _).goc ?_;clear H F;intro w4 H;dsimp only [upd] at H;have F:=H.f;dsimp only [Fac] at F
 refine (OB.out _).mono ?_;rintro e w5 ⟨rfl,hb⟩
 replace H:=H.below hb;clear hb;replace F:=H.f;dsimp only [Fac] at F
 go_wp2_with fail
 refine ((((((H.set 3 _).set 4 _).set 5 _).set 6 _).set 7 _).set 8 _).gob ?_;clear H F;intro wz H;dsimp only [upd] at H;have F:=H.f;dsimp only [Fac] at F
 refine bodyPost_ret (by simp [results,Tryz.results34,go_sem,F]) rfl ⟨rfl,?_⟩;exact H.B
set_option maxRecDepth 4000 in
set_option maxHeartbeats 2000000 in
theorem rdo_t11 (o:Int) (a b a2 b2:Nat) (d d2:Int) (A Bh C D m n:Int) (rA:Rg A) (rB:Rg Bh) (rC:Rg C) (rD:Rg D) (X Y l:Int) (rX:Rg X) (rY:Rg Y) (ho:6≤o∧o≤11) (hm : ¬m=0) (hn : ¬n=0) (hx:m<l) (hy:n<m) 
  (hOA : ∀ w,Calls Tryz.prog 31 #[.agg #[.float .f64 (a),.float .f64 (b)],.int .i64 d] w fun e w'=>e = .returned (.agg #[.float .f64 (ofKey (A)),.float .f64 (ofKey (Bh)),.int .i64 (m)])∧Below w.heap.size w w')
  (hOB : ∀ w,Calls Tryz.prog 31 #[.agg #[.float .f64 (a2),.float .f64 (b2)],.int .i64 d2] w fun e w'=>e = .returned (.agg #[.float .f64 (ofKey (C)),.float .f64 (ofKey (D)),.int .i64 (n)])∧Below w.heap.size w w')
  (hAP : ∀ w,Calls Tryz.prog 23 #[.int .i64 o,.agg #[.float .f64 (ofKey (A)),.float .f64 (ofKey (Bh))],.agg #[.float .f64 (ofKey (C)),.float .f64 (ofKey (D))]] w fun e w'=>e = .returned (.agg #[.float .f64 (ofKey (X)),.float .f64 (ofKey (Y))])∧Below w.heap.size w w')
  (hLC : ∀ w,Calls Tryz.prog 66 #[.int .i64 o,.agg #[.float .f64 (ofKey (A)),.float .f64 (ofKey (Bh))],.agg #[.float .f64 (ofKey (C)),.float .f64 (ofKey (D))],.agg #[.float .f64 (ofKey (X)),.float .f64 (ofKey (Y))]] w fun e w'=>e = .returned (.int .i64 l)∧Below w.heap.size w w') (w:World) :
  Calls Tryz.prog 34 #[.int .i64 o,.agg #[.float .f64 (a),.float .f64 (b),.int .i64 (d)],.agg #[.float .f64 (a2),.float .f64 (b2),.int .i64 (d2)]] w fun e w'=>e = .returned (.agg #[.float .f64 (ofKey (X)),.float .f64 (ofKey (Y)),.int .i64 (n)])∧Below w.heap.size w w':=by
 obtain ⟨o1,o2⟩:=ho
 have OA:=Lib.hid hOA
 have OB:=Lib.hid hOB
 have AP:=Lib.hid hAP
 have LC:=Lib.hid hLC
 clear hOA hOB hAP hLC
 have bm:(m==0)=false:=by simpa using hm
 have bn:(n==0)=false:=by simpa using hn
 go_enter Tryz.func34,Tryz.ntmps34
 go_wp2_with fail
 refine (refempty_any _).mono ?_;rintro e w1 ⟨rfl,hb⟩
 have H:=Hold.i333.below hb;clear hb;have F:=H.f;dsimp only [Fac] at F
 go_wp2_with fail
 have n1:=H.lt;dsimp only [Lts] at n1
 refine (H.new3 _ _ _ _).goc ?_;clear H F;intro w2 H;dsimp only [add] at H;have F:=H.f;dsimp only [Fac] at F
 refine (OA.out _).mono ?_;rintro e w3 ⟨rfl,hb⟩
 replace H:=H.below hb;clear hb;replace F:=H.f;dsimp only [Fac] at F
 go_wp2_with fail
 refine (((H.set 0 _).set 1 _).set 2 _).goc ?_;clear H F;intro w4 H;dsimp only [upd] at H;have F:=H.f;dsimp only [Fac] at F
 refine (OB.out _).mono ?_;rintro e w5 ⟨rfl,hb⟩
 replace H:=H.below hb;clear hb;replace F:=H.f;dsimp only [Fac] at F
 go_wp2_with fail
 first|refine (((H.set 3 _).set 4 _).set 5 _).goc ?_|refine (((H.set 3 _).set 4 _).set 5 _).gol ?_|refine (((H.set 3 _).set 4 _).set 5 _).go ?_|refine (((H.set 3 _).set 4 _).set 5 _).gob ?_|refine (((H.set 3 _).set 4 _).set 5 _).gok ?_
 clear H F;intro w6 H;dsimp only [upd] at H;have F:=H.f;dsimp only [Fac] at F
 go_wp2_with fail
 refine (AP.out _).mono ?_;rintro e w7 ⟨rfl,hb⟩
 replace H:=H.below hb;clear hb;replace F:=H.f;dsimp only [Fac] at F
 go_wp2_with fail
 have n2:=H.lt;dsimp only [Lts] at n2
 refine (H.new2 _ _ _).goc ?_;clear H F;intro w8 H;dsimp only [add] at H;have F:=H.f;dsimp only [Fac] at F
 refine (LC.out _).mono ?_;rintro e w9 ⟨rfl,hb⟩
 replace H:=H.below hb;clear hb;replace F:=H.f;dsimp only [Fac] at F
 go_wp2_with fail
 refine (((H.set 6 _).set 7 _).set 8 _).gob ?_;clear H F;intro wz H;dsimp only [upd] at H;have F:=H.f;dsimp only [Fac] at F
 refine bodyPost_ret (by simp [results,Tryz.results34,go_sem,F]) rfl ⟨rfl,?_⟩;exact H.B
set_option maxRecDepth 4000 in
set_option maxHeartbeats 2000000 in
theorem rdo_t10 (o:Int) (a b a2 b2:Nat) (d d2:Int) (A Bh C D m n:Int) (rA:Rg A) (rB:Rg Bh) (rC:Rg C) (rD:Rg D) (X Y l:Int) (rX:Rg X) (rY:Rg Y) (ho:6≤o∧o≤11) (hm : ¬m=0) (hn : ¬n=0) (hx:m<l) (hy : ¬n<m) 
  (hOA : ∀ w,Calls Tryz.prog 31 #[.agg #[.float .f64 (a),.float .f64 (b)],.int .i64 d] w fun e w'=>e = .returned (.agg #[.float .f64 (ofKey (A)),.float .f64 (ofKey (Bh)),.int .i64 (m)])∧Below w.heap.size w w')
  (hOB : ∀ w,Calls Tryz.prog 31 #[.agg #[.float .f64 (a2),.float .f64 (b2)],.int .i64 d2] w fun e w'=>e = .returned (.agg #[.float .f64 (ofKey (C)),.float .f64 (ofKey (D)),.int .i64 (n)])∧Below w.heap.size w w')
  (hAP : ∀ w,Calls Tryz.prog 23 #[.int .i64 o,.agg #[.float .f64 (ofKey (A)),.float .f64 (ofKey (Bh))],.agg #[.float .f64 (ofKey (C)),.float .f64 (ofKey (D))]] w fun e w'=>e = .returned (.agg #[.float .f64 (ofKey (X)),.float .f64 (ofKey (Y))])∧Below w.heap.size w w')
  (hLC : ∀ w,Calls Tryz.prog 66 #[.int .i64 o,.agg #[.float .f64 (ofKey (A)),.float .f64 (ofKey (Bh))],.agg #[.float .f64 (ofKey (C)),.float .f64 (ofKey (D))],.agg #[.float .f64 (ofKey (X)),.float .f64 (ofKey (Y))]] w fun e w'=>e = .returned (.int .i64 l)∧Below w.heap.size w w') (w:World) :
  Calls Tryz.prog 34 #[.int .i64 o,.agg #[.float .f64 (a),.float .f64 (b),.int .i64 (d)],.agg #[.float .f64 (a2),.float .f64 (b2),.int .i64 (d2)]] w fun e w'=>e = .returned (.agg #[.float .f64 (ofKey (X)),.float .f64 (ofKey (Y)),.int .i64 (m)])∧Below w.heap.size w w':=by
 obtain ⟨o1,o2⟩:=ho
 have OA:=Lib.hid hOA
 have OB:=Lib.hid hOB
 have AP:=Lib.hid hAP
 have LC:=Lib.hid hLC
 clear hOA hOB hAP hLC
 have bm:(m==0)=false:=by simpa using hm
 have bn:(n==0)=false:=by simpa using hn
 go_enter Tryz.func34,Tryz.ntmps34
 go_wp2_with fail
 refine (refempty_any _).mono ?_;rintro e w1 ⟨rfl,hb⟩
 have H:=Hold.i333.below hb;clear hb;have F:=H.f;dsimp only [Fac] at F
 go_wp2_with fail
 have n1:=H.lt;dsimp only [Lts] at n1
 refine (H.new3 _ _ _ _).goc ?_;clear H F;intro w2 H;dsimp only [add] at H;have F:=H.f;dsimp only [Fac] at F
 refine (OA.out _).mono ?_;rintro e w3 ⟨rfl,hb⟩
 replace H:=H.below hb;clear hb;replace F:=H.f;dsimp only [Fac] at F
 go_wp2_with fail
 refine (((H.set 0 _).set 1 _).set 2 _).goc ?_;clear H F;intro w4 H;dsimp only [upd] at H;have F:=H.f;dsimp only [Fac] at F
 refine (OB.out _).mono ?_;rintro e w5 ⟨rfl,hb⟩
 replace H:=H.below hb;clear hb;replace F:=H.f;dsimp only [Fac] at F
 go_wp2_with fail
 first|refine (((H.set 3 _).set 4 _).set 5 _).goc ?_|refine (((H.set 3 _).set 4 _).set 5 _).gol ?_|refine (((H.set 3 _).set 4 _).set 5 _).go ?_|refine (((H.set 3 _).set 4 _).set 5 _).gob ?_|refine (((H.set 3 _).set 4 _).set 5 _).gok ?_
 clear H F;intro w6 H;dsimp only [upd] at H;have F:=H.f;dsimp only [Fac] at F
 go_wp2_with fail
 refine (AP.out _).mono ?_;rintro e w7 ⟨rfl,hb⟩
 replace H:=H.below hb;clear hb;replace F:=H.f;dsimp only [Fac] at F
 go_wp2_with fail
 have n2:=H.lt;dsimp only [Lts] at n2
 refine (H.new2 _ _ _).goc ?_;clear H F;intro w8 H;dsimp only [add] at H;have F:=H.f;dsimp only [Fac] at F
 refine (LC.out _).mono ?_;rintro e w9 ⟨rfl,hb⟩
 replace H:=H.below hb;clear hb;replace F:=H.f;dsimp only [Fac] at F
 go_wp2_with fail
 refine (((H.set 6 _).set 7 _).set 8 _).gob ?_;clear H F;intro wz H;dsimp only [upd] at H;have F:=H.f;dsimp only [Fac] at F
 refine bodyPost_ret (by simp [results,Tryz.results34,go_sem,F]) rfl ⟨rfl,?_⟩;exact H.B
set_option maxRecDepth 4000 in
set_option maxHeartbeats 2000000 in
theorem rdo_t01 (o:Int) (a b a2 b2:Nat) (d d2:Int) (A Bh C D m n:Int) (rA:Rg A) (rB:Rg Bh) (rC:Rg C) (rD:Rg D) (X Y l:Int) (rX:Rg X) (rY:Rg Y) (ho:6≤o∧o≤11) (hm : ¬m=0) (hn : ¬n=0) (hx : ¬m<l) (hy:n<l) 
  (hOA : ∀ w,Calls Tryz.prog 31 #[.agg #[.float .f64 (a),.float .f64 (b)],.int .i64 d] w fun e w'=>e = .returned (.agg #[.float .f64 (ofKey (A)),.float .f64 (ofKey (Bh)),.int .i64 (m)])∧Below w.heap.size w w')
  (hOB : ∀ w,Calls Tryz.prog 31 #[.agg #[.float .f64 (a2),.float .f64 (b2)],.int .i64 d2] w fun e w'=>e = .returned (.agg #[.float .f64 (ofKey (C)),.float .f64 (ofKey (D)),.int .i64 (n)])∧Below w.heap.size w w')
  (hAP : ∀ w,Calls Tryz.prog 23 #[.int .i64 o,.agg #[.float .f64 (ofKey (A)),.float .f64 (ofKey (Bh))],.agg #[.float .f64 (ofKey (C)),.float .f64 (ofKey (D))]] w fun e w'=>e = .returned (.agg #[.float .f64 (ofKey (X)),.float .f64 (ofKey (Y))])∧Below w.heap.size w w')
  (hLC : ∀ w,Calls Tryz.prog 66 #[.int .i64 o,.agg #[.float .f64 (ofKey (A)),.float .f64 (ofKey (Bh))],.agg #[.float .f64 (ofKey (C)),.float .f64 (ofKey (D))],.agg #[.float .f64 (ofKey (X)),.float .f64 (ofKey (Y))]] w fun e w'=>e = .returned (.int .i64 l)∧Below w.heap.size w w') (w:World) :
  Calls Tryz.prog 34 #[.int .i64 o,.agg #[.float .f64 (a),.float .f64 (b),.int .i64 (d)],.agg #[.float .f64 (a2),.float .f64 (b2),.int .i64 (d2)]] w fun e w'=>e = .returned (.agg #[.float .f64 (ofKey (X)),.float .f64 (ofKey (Y)),.int .i64 (n)])∧Below w.heap.size w w':=by
 obtain ⟨o1,o2⟩:=ho
 have OA:=Lib.hid hOA
 have OB:=Lib.hid hOB
 have AP:=Lib.hid hAP
 have LC:=Lib.hid hLC
 clear hOA hOB hAP hLC
 have bm:(m==0)=false:=by simpa using hm
 have bn:(n==0)=false:=by simpa using hn
 go_enter Tryz.func34,Tryz.ntmps34
 go_wp2_with fail
 refine (refempty_any _).mono ?_;rintro e w1 ⟨rfl,hb⟩
 have H:=Hold.i333.below hb;clear hb;have F:=H.f;dsimp only [Fac] at F
 go_wp2_with fail
 have n1:=H.lt;dsimp only [Lts] at n1
 refine (H.new3 _ _ _ _).goc ?_;clear H F;intro w2 H;dsimp only [add] at H;have F:=H.f;dsimp only [Fac] at F
 refine (OA.out _).mono ?_;rintro e w3 ⟨rfl,hb⟩
 replace H:=H.below hb;clear hb;replace F:=H.f;dsimp only [Fac] at F
 go_wp2_with fail
 refine (((H.set 0 _).set 1 _).set 2 _).goc ?_;clear H F;intro w4 H;dsimp only [upd] at H;have F:=H.f;dsimp only [Fac] at F
 refine (OB.out _).mono ?_;rintro e w5 ⟨rfl,hb⟩
 replace H:=H.below hb;clear hb;replace F:=H.f;dsimp only [Fac] at F
 go_wp2_with fail
 first|refine (((H.set 3 _).set 4 _).set 5 _).goc ?_|refine (((H.set 3 _).set 4 _).set 5 _).gol ?_|refine (((H.set 3 _).set 4 _).set 5 _).go ?_|refine (((H.set 3 _).set 4 _).set 5 _).gob ?_|refine (((H.set 3 _).set 4 _).set 5 _).gok ?_
 clear H F;intro w6 H;dsimp only [upd] at H;have F:=H.f;dsimp only [Fac] at F
 go_wp2_with fail
 refine (AP.out _).mono ?_;rintro e w7 ⟨rfl,hb⟩
 replace H:=H.below hb;clear hb;replace F:=H.f;dsimp only [Fac] at F
 go_wp2_with fail
 have n2:=H.lt;dsimp only [Lts] at n2
 refine (H.new2 _ _ _).goc ?_;clear H F;intro w8 H;dsimp only [add] at H;have F:=H.f;dsimp only [Fac] at F
 refine (LC.out _).mono ?_;rintro e w9 ⟨rfl,hb⟩
 replace H:=H.below hb;clear hb;replace F:=H.f;dsimp only [Fac] at F
 go_wp2_with fail
 refine (((H.set 6 _).set 7 _).set 8 _).gob ?_;clear H F;intro wz H;dsimp only [upd] at H;have F:=H.f;dsimp only [Fac] at F
 refine bodyPost_ret (by simp [results,Tryz.results34,go_sem,F]) rfl ⟨rfl,?_⟩;exact H.B
set_option maxRecDepth 4000 in
set_option maxHeartbeats 2000000 in
theorem rdo_t00 (o:Int) (a b a2 b2:Nat) (d d2:Int) (A Bh C D m n:Int) (rA:Rg A) (rB:Rg Bh) (rC:Rg C) (rD:Rg D) (X Y l:Int) (rX:Rg X) (rY:Rg Y) (ho:6≤o∧o≤11) (hm : ¬m=0) (hn : ¬n=0) (hx : ¬m<l) (hy : ¬n<l) 
  (hOA : ∀ w,Calls Tryz.prog 31 #[.agg #[.float .f64 (a),.float .f64 (b)],.int .i64 d] w fun e w'=>e = .returned (.agg #[.float .f64 (ofKey (A)),.float .f64 (ofKey (Bh)),.int .i64 (m)])∧Below w.heap.size w w')
  (hOB : ∀ w,Calls Tryz.prog 31 #[.agg #[.float .f64 (a2),.float .f64 (b2)],.int .i64 d2] w fun e w'=>e = .returned (.agg #[.float .f64 (ofKey (C)),.float .f64 (ofKey (D)),.int .i64 (n)])∧Below w.heap.size w w')
  (hAP : ∀ w,Calls Tryz.prog 23 #[.int .i64 o,.agg #[.float .f64 (ofKey (A)),.float .f64 (ofKey (Bh))],.agg #[.float .f64 (ofKey (C)),.float .f64 (ofKey (D))]] w fun e w'=>e = .returned (.agg #[.float .f64 (ofKey (X)),.float .f64 (ofKey (Y))])∧Below w.heap.size w w')
  (hLC : ∀ w,Calls Tryz.prog 66 #[.int .i64 o,.agg #[.float .f64 (ofKey (A)),.float .f64 (ofKey (Bh))],.agg #[.float .f64 (ofKey (C)),.float .f64 (ofKey (D))],.agg #[.float .f64 (ofKey (X)),.float .f64 (ofKey (Y))]] w fun e w'=>e = .returned (.int .i64 l)∧Below w.heap.size w w') (w:World) :
  Calls Tryz.prog 34 #[.int .i64 o,.agg #[.float .f64 (a),.float .f64 (b),.int .i64 (d)],.agg #[.float .f64 (a2),.float .f64 (b2),.int .i64 (d2)]] w fun e w'=>e = .returned (.agg #[.float .f64 (ofKey (X)),.float .f64 (ofKey (Y)),.int .i64 (l)])∧Below w.heap.size w w':=by
 obtain ⟨o1,o2⟩:=ho
 have OA:=Lib.hid hOA
 have OB:=Lib.hid hOB
 have AP:=Lib.hid hAP
 have LC:=Lib.hid hLC
 clear hOA hOB hAP hLC
 have bm:(m==0)=false:=by simpa using hm
 have bn:(n==0)=false:=by simpa using hn
 go_enter Tryz.func34,Tryz.ntmps34
 go_wp2_with fail
 refine (refempty_any _).mono ?_;rintro e w1 ⟨rfl,hb⟩
 have H:=Hold.i333.below hb;clear hb;have F:=H.f;dsimp only [Fac] at F
 go_wp2_with fail
 have n1:=H.lt;dsimp only [Lts] at n1
 refine (H.new3 _ _ _ _).goc ?_;clear H F;intro w2 H;dsimp only [add] at H;have F:=H.f;dsimp only [Fac] at F
 refine (OA.out _).mono ?_;rintro e w3 ⟨rfl,hb⟩
 replace H:=H.below hb;clear hb;replace F:=H.f;dsimp only [Fac] at F
 go_wp2_with fail
 refine (((H.set 0 _).set 1 _).set 2 _).goc ?_;clear H F;intro w4 H;dsimp only [upd] at H;have F:=H.f;dsimp only [Fac] at F
 refine (OB.out _).mono ?_;rintro e w5 ⟨rfl,hb⟩
 replace H:=H.below hb;clear hb;replace F:=H.f;dsimp only [Fac] at F
 go_wp2_with fail
 first|refine (((H.set 3 _).set 4 _).set 5 _).goc ?_|refine (((H.set 3 _).set 4 _).set 5 _).gol ?_|refine (((H.set 3 _).set 4 _).set 5 _).go ?_|refine (((H.set 3 _).set 4 _).set 5 _).gob ?_|refine (((H.set 3 _).set 4 _).set 5 _).gok ?_
 clear H F;intro w6 H;dsimp only [upd] at H;have F:=H.f;dsimp only [Fac] at F
 go_wp2_with fail
 refine (AP.out _).mono ?_;rintro e w7 ⟨rfl,hb⟩
 replace H:=H.below hb;clear hb;replace F:=H.f;dsimp only [Fac] at F
 go_wp2_with fail
 have n2:=H.lt;dsimp only [Lts] at n2
 refine (H.new2 _ _ _).goc ?_;clear H F;intro w8 H;dsimp only [add] at H;have F:=H.f;dsimp only [Fac] at F
 refine (LC.out _).mono ?_;rintro e w9 ⟨rfl,hb⟩
 replace H:=H.below hb;clear hb;replace F:=H.f;dsimp only [Fac] at F
 go_wp2_with fail
 refine (((H.set 6 _).set 7 _).set 8 _).gob ?_;clear H F;intro wz H;dsimp only [upd] at H;have F:=H.f;dsimp only [Fac] at F
 refine bodyPost_ret (by simp [results,Tryz.results34,go_sem,F]) rfl ⟨rfl,?_⟩;exact H.B
set_option maxRecDepth 4000 in
set_option maxHeartbeats 2000000 in
theorem rdo_o10 (o:Int) (a b a2 b2:Nat) (d d2:Int) (A Bh C D m n:Int) (rA:Rg A) (rB:Rg Bh) (rC:Rg C) (rD:Rg D) (X Y l:Int) (rX:Rg X) (rY:Rg Y) (ho:0≤o∧o≤5) (hm : ¬m=0) (hx:m<l) (hy : ¬4<m) 
  (hOA : ∀ w,Calls Tryz.prog 31 #[.agg #[.float .f64 (a),.float .f64 (b)],.int .i64 d] w fun e w'=>e = .returned (.agg #[.float .f64 (ofKey (A)),.float .f64 (ofKey (Bh)),.int .i64 (m)])∧Below w.heap.size w w')
  (hOB : ∀ w,Calls Tryz.prog 31 #[.agg #[.float .f64 (a2),.float .f64 (b2)],.int .i64 d2] w fun e w'=>e = .returned (.agg #[.float .f64 (ofKey (C)),.float .f64 (ofKey (D)),.int .i64 (n)])∧Below w.heap.size w w')
  (hAP : ∀ w,Calls Tryz.prog 23 #[.int .i64 o,.agg #[.float .f64 (ofKey (A)),.float .f64 (ofKey (Bh))],.agg #[.float .f64 4607182418800017408,.float .f64 4607182418800017408]] w fun e w'=>e = .returned (.agg #[.float .f64 (ofKey (X)),.float .f64 (ofKey (Y))])∧Below w.heap.size w w')
  (hLC : ∀ w,Calls Tryz.prog 66 #[.int .i64 o,.agg #[.float .f64 (ofKey (A)),.float .f64 (ofKey (Bh))],.agg #[.float .f64 4607182418800017408,.float .f64 4607182418800017408],.agg #[.float .f64 (ofKey (X)),.float .f64 (ofKey (Y))]] w fun e w'=>e = .returned (.int .i64 l)∧Below w.heap.size w w') (w:World) :
  Calls Tryz.prog 34 #[.int .i64 o,.agg #[.float .f64 (a),.float .f64 (b),.int .i64 (d)],.agg #[.float .f64 (a2),.float .f64 (b2),.int .i64 (d2)]] w fun e w'=>e = .returned (.agg #[.float .f64 (ofKey (X)),.float .f64 (ofKey (Y)),.int .i64 (m)])∧Below w.heap.size w w':=by
 obtain ⟨o1,o2⟩:=ho
 have OA:=Lib.hid hOA
 have OB:=Lib.hid hOB
 have AP:=Lib.hid hAP
 have LC:=Lib.hid hLC
 clear hOA hOB hAP hLC
 have bm:(m==0)=false:=by simpa using hm
 go_enter Tryz.func34,Tryz.ntmps34
 go_wp2_with fail
 refine (refempty_any _).mono ?_;rintro e w1 ⟨rfl,hb⟩
 have H:=Hold.i333.below hb;clear hb;have F:=H.f;dsimp only [Fac] at F
 go_wp2_with fail
 have n1:=H.lt;dsimp only [Lts] at n1
 refine (H.new3 _ _ _ _).goc ?_;clear H F;intro w2 H;dsimp only [add] at H;have F:=H.f;dsimp only [Fac] at F
 refine (OA.out _).mono ?_;rintro e w3 ⟨rfl,hb⟩
 replace H:=H.below hb;clear hb;replace F:=H.f;dsimp only [Fac] at F
 go_wp2_with fail
 refine (((H.set 0 _).set 1 _).set 2 _).goc ?_;clear H F;intro w4 H;dsimp only [upd] at H;have F:=H.f;dsimp only [Fac] at F
 refine (OB.out _).mono ?_;rintro e w5 ⟨rfl,hb⟩
 replace H:=H.below hb;clear hb;replace F:=H.f;dsimp only [Fac] at F
 dsimp only
 iterate 4 go_step
 first|refine (((H.set 3 _).set 4 _).set 5 _).goc ?_|refine (((H.set 3 _).set 4 _).set 5 _).gol ?_|refine (((H.set 3 _).set 4 _).set 5 _).go ?_|refine (((H.set 3 _).set 4 _).set 5 _).gob ?_|refine (((H.set 3 _).set 4 _).set 5 _).gok ?_
 clear H F;intro w6 H;dsimp only [upd] at H;have F:=H.f;dsimp only [Fac] at F
 go_wp2_with fail
 first|refine (((H.set 3 _).set 4 _).set 5 _).goc ?_|refine (((H.set 3 _).set 4 _).set 5 _).gol ?_|refine (((H.set 3 _).set 4 _).set 5 _).go ?_|refine (((H.set 3 _).set 4 _).set 5 _).gob ?_|refine (((H.set 3 _).set 4 _).set 5 _).gok ?_
 clear H F;intro wo H;dsimp only [upd] at H;have F:=H.f;dsimp only [Fac] at F
 go_wp2_with fail
 refine (AP.out _).mono ?_;rintro e w7 ⟨rfl,hb⟩
 replace H:=H.below hb;clear hb;replace F:=H.f;dsimp only [Fac] at F
 go_wp2_with fail
 have n2:=H.lt;dsimp only [Lts] at n2
 refine (H.new2 _ _ _).goc ?_;clear H F;intro w8 H;dsimp only [add] at H;have F:=H.f;dsimp only [Fac] at F
 refine (LC.out _).mono ?_;rintro e w9 ⟨rfl,hb⟩
 replace H:=H.below hb;clear hb;replace F:=H.f;dsimp only [Fac] at F
 go_wp2_with fail
 refine (((H.set 6 _).set 7 _).set 8 _).gob ?_;clear H F;intro wz H;dsimp only [upd] at H;have F:=H.f;dsimp only [Fac] at F
 refine bodyPost_ret (by simp [results,Tryz.results34,go_sem,F]) rfl ⟨rfl,?_⟩;exact H.B
set_option maxRecDepth 4000 in
set_option maxHeartbeats 2000000 in
theorem rdo_o00 (o:Int) (a b a2 b2:Nat) (d d2:Int) (A Bh C D m n:Int) (rA:Rg A) (rB:Rg Bh) (rC:Rg C) (rD:Rg D) (X Y l:Int) (rX:Rg X) (rY:Rg Y) (ho:0≤o∧o≤5) (hm : ¬m=0) (hx : ¬m<l) (hy : ¬4<l) 
  (hOA : ∀ w,Calls Tryz.prog 31 #[.agg #[.float .f64 (a),.float .f64 (b)],.int .i64 d] w fun e w'=>e = .returned (.agg #[.float .f64 (ofKey (A)),.float .f64 (ofKey (Bh)),.int .i64 (m)])∧Below w.heap.size w w')
  (hOB : ∀ w,Calls Tryz.prog 31 #[.agg #[.float .f64 (a2),.float .f64 (b2)],.int .i64 d2] w fun e w'=>e = .returned (.agg #[.float .f64 (ofKey (C)),.float .f64 (ofKey (D)),.int .i64 (n)])∧Below w.heap.size w w')
  (hAP : ∀ w,Calls Tryz.prog 23 #[.int .i64 o,.agg #[.float .f64 (ofKey (A)),.float .f64 (ofKey (Bh))],.agg #[.float .f64 4607182418800017408,.float .f64 4607182418800017408]] w fun e w'=>e = .returned (.agg #[.float .f64 (ofKey (X)),.float .f64 (ofKey (Y))])∧Below w.heap.size w w')
  (hLC : ∀ w,Calls Tryz.prog 66 #[.int .i64 o,.agg #[.float .f64 (ofKey (A)),.float .f64 (ofKey (Bh))],.agg #[.float .f64 4607182418800017408,.float .f64 4607182418800017408],.agg #[.float .f64 (ofKey (X)),.float .f64 (ofKey (Y))]] w fun e w'=>e = .returned (.int .i64 l)∧Below w.heap.size w w') (w:World) :
  Calls Tryz.prog 34 #[.int .i64 o,.agg #[.float .f64 (a),.float .f64 (b),.int .i64 (d)],.agg #[.float .f64 (a2),.float .f64 (b2),.int .i64 (d2)]] w fun e w'=>e = .returned (.agg #[.float .f64 (ofKey (X)),.float .f64 (ofKey (Y)),.int .i64 (l)])∧Below w.heap.size w w':=by
 obtain ⟨o1,o2⟩:=ho
 have OA:=Lib.hid hOA
 have OB:=Lib.hid hOB
 have AP:=Lib.hid hAP
 have LC:=Lib.hid hLC
 clear hOA hOB hAP hLC
 have bm:(m==0)=false:=by simpa using hm
 go_enter Tryz.func34,Tryz.ntmps34
 go_wp2_with fail
 refine (refempty_any _).mono ?_;rintro e w1 ⟨rfl,hb⟩
 have H:=Hold.i333.below hb;clear hb;have F:=H.f;dsimp only [Fac] at F
 go_wp2_with fail
 have n1:=H.lt;dsimp only [Lts] at n1
 refine (H.new3 _ _ _ _).goc ?_;clear H F;intro w2 H;dsimp only [add] at H;have F:=H.f;dsimp only [Fac] at F
 refine (OA.out _).mono ?_;rintro e w3 ⟨rfl,hb⟩
 replace H:=H.below hb;clear hb;replace F:=H.f;dsimp only [Fac] at F
 go_wp2_with fail
 refine (((H.set 0 _).set 1 _).set 2 _).goc ?_;clear H F;intro w4 H;dsimp only [upd] at H;have F:=H.f;dsimp only [Fac] at F
 refine (OB.out _).mono ?_;rintro e w5 ⟨rfl,hb⟩
 replace H:=H.below hb;clear hb;replace F:=H.f;dsimp only [Fac] at F
 dsimp only
 iterate 4 go_step
 first|refine (((H.set 3 _).set 4 _).set 5 _).goc ?_|refine (((H.set 3 _).set 4 _).set 5 _).gol ?_|refine (((H.set 3 _).set 4 _).set 5 _).go ?_|refine (((H.set 3 _).set 4 _).set 5 _).gob ?_|refine (((H.set 3 _).set 4 _).set 5 _).gok ?_
 clear H F;intro w6 H;dsimp only [upd] at H;have F:=H.f;dsimp only [Fac] at F
 go_wp2_with fail
 first|refine (((H.set 3 _).set 4 _).set 5 _).goc ?_|refine (((H.set 3 _).set 4 _).set 5 _).gol ?_|refine (((H.set 3 _).set 4 _).set 5 _).go ?_|refine (((H.set 3 _).set 4 _).set 5 _).gob ?_|refine (((H.set 3 _).set 4 _).set 5 _).gok ?_
 clear H F;intro wo H;dsimp only [upd] at H;have F:=H.f;dsimp only [Fac] at F
 go_wp2_with fail
 refine (AP.out _).mono ?_;rintro e w7 ⟨rfl,hb⟩
 replace H:=H.below hb;clear hb;replace F:=H.f;dsimp only [Fac] at F
 go_wp2_with fail
 have n2:=H.lt;dsimp only [Lts] at n2
 refine (H.new2 _ _ _).goc ?_;clear H F;intro w8 H;dsimp only [add] at H;have F:=H.f;dsimp only [Fac] at F
 refine (LC.out _).mono ?_;rintro e w9 ⟨rfl,hb⟩
 replace H:=H.below hb;clear hb;replace F:=H.f;dsimp only [Fac] at F
 go_wp2_with fail
 refine (((H.set 6 _).set 7 _).set 8 _).gob ?_;clear H F;intro wz H;dsimp only [upd] at H;have F:=H.f;dsimp only [Fac] at F
 refine bodyPost_ret (by simp [results,Tryz.results34,go_sem,F]) rfl ⟨rfl,?_⟩;exact H.B
theorem refapply_k (o A B C D:Int) (h:Iv A B) (h':Iv C D) (w:World) :
  Calls Tryz.prog 23 #[.int .i64 o,.agg #[.float .f64 (ofKey (A)),.float .f64 (ofKey (B))],.agg #[.float .f64 (ofKey (C)),.float .f64 (ofKey (D))]] w fun e w'=>e = .returned (.agg #[.float .f64 (ofKey (apLo o A B C D)),.float .f64 (ofKey (apHi o A B C D))])∧Below w.heap.size w w':=by
 have a:=tk_canon h
 have b:=tk_canon h'
 have c:=refapply_any o (ofKey A) (ofKey B) (ofKey C) (ofKey D) (ofKey_lt h.1) (ofKey_lt h.2.1) (ofKey_lt h'.1) (ofKey_lt h'.2.1) w
 rw [a.1,a.2,b.1,b.2] at c
 exact c
theorem ap_cd {o A B:Int} (h:0≤o∧o≤5) (C D C' D':Int):apLo o A B C D=apLo o A B C' D'∧apHi o A B C D=apHi o A B C' D':=by
 have u:Uses o A B C D↔Uses o A B C' D':=by unfold Uses;omega
 have e:=one_cd h A B C D
 have f:=one_cd h A B C' D'
 unfold apLo apHi
 rw [e.1,e.2,f.1,f.2]
 by_cases g:Uses o A B C D
 ·rw [if_pos g,if_pos g,if_pos (u.1 g),if_pos (u.1 g)];exact ⟨rfl,rfl⟩
 ·rw [if_neg g,if_neg g,if_neg (fun x=>g (u.2 x)),if_neg (fun x=>g (u.2 x))];exact ⟨rfl,rfl⟩
theorem argsK1 {o:Int} (h:0≤o∧o≤5):argsK o=1:=by unfold argsK;rw [if_pos (by omega)]
theorem argsK2 {o:Int} (h:6≤o∧o≤11):argsK o=2:=by unfold argsK;rw [if_neg (by omega),if_pos (by omega)]
theorem argsK0 {o:Int} (h:o<0∨11<o):argsK o=0:=by unfold argsK;rw [if_neg (by omega),if_neg (by omega)]
theorem bnd_one:Bnd 4607182418800017408 4607182418800017408:=by unfold Bnd;decide
theorem rloc_two {o A B C D X Y:Int} (hI:Iv A B) (hJ:Iv C D):rlocK o A B C D X Y=if (A=PI∧B = -PI)∨(C=PI∧D = -PI) then 1 else localK o A B C D X Y:=by
 have hP:=PI_pos
 have eA:=iv_lt hI
 have eC:=iv_lt hJ
 unfold rlocK localK
 by_cases h:(A=PI∧B = -PI)∨(C=PI∧D = -PI)
 ·rw [if_pos h,if_pos (by omega)]
 ·rw [if_neg h]
  by_cases h5:o=5∧A≤0∧0≤B
  ·rw [if_pos h5,if_pos (by omega)]
  by_cases h9:o=9∧C≤0∧0≤D
  ·rw [if_neg h5,if_pos h9,if_pos (by omega)]
  by_cases h3:o=3∧A<0
  ·rw [if_neg h5,if_neg h9,if_pos h3,if_pos (by omega)]
  rw [if_neg h5,if_neg h9,if_neg h3,if_neg (by omega)]
theorem rloc_one {o A B X Y:Int} (hI:Iv A B) (ho:0≤o∧o≤5):rlocK o A B 4607182418800017408 4607182418800017408 X Y=if A=PI∧B = -PI then 1 else localK o A B A B X Y:=by
 have hP:=PI_pos
 have eA:=iv_lt hI
 have b1:=bnd_one
 unfold rlocK localK
 by_cases h:A=PI∧B = -PI
 ·rw [if_pos h,if_pos (by omega)]
 ·rw [if_neg h]
  have h9 : ¬(o=9∧A≤0∧0≤B):=by omega
  by_cases h5:o=5∧A≤0∧0≤B
  ·rw [if_pos h5,if_pos (by omega)]
  by_cases h3:o=3∧A<0
  ·rw [if_neg h5,if_neg h9,if_pos h3,if_pos (by omega)]
  rw [if_neg h5,if_neg h9,if_neg h3,if_neg (by omega)]
  have e:(Bnd A B∧Bnd 4607182418800017408 4607182418800017408∧Bnd X Y)=(Bnd A B∧Bnd A B∧Bnd X Y):=by
   simp only [eq_iff_iff];exact ⟨fun g=>⟨g.1,g.1,g.2.2⟩,fun g=>⟨g.1,b1,g.2.2⟩⟩
  simp only [e]
theorem rdo_two (o:Int) (a b a2 b2:Nat) (d d2:Int) (A B C D m n X Y l:Int) (rA:Rg A) (rB:Rg B) (rC:Rg C) (rD:Rg D) (rX:Rg X) (rY:Rg Y) (ho:6≤o∧o≤11) (hm : ¬m=0) (hn : ¬n=0)
  (hOA : ∀ w,Calls Tryz.prog 31 #[.agg #[.float .f64 (a),.float .f64 (b)],.int .i64 d] w fun e w'=>e = .returned (.agg #[.float .f64 (ofKey (A)),.float .f64 (ofKey (B)),.int .i64 (m)])∧Below w.heap.size w w') (hOB : ∀ w,Calls Tryz.prog 31 #[.agg #[.float .f64 (a2),.float .f64 (b2)],.int .i64 d2] w fun e w'=>e = .returned (.agg #[.float .f64 (ofKey (C)),.float .f64 (ofKey (D)),.int .i64 (n)])∧Below w.heap.size w w')
  (hAP : ∀ w,Calls Tryz.prog 23 #[.int .i64 o,.agg #[.float .f64 (ofKey (A)),.float .f64 (ofKey (B))],.agg #[.float .f64 (ofKey (C)),.float .f64 (ofKey (D))]] w fun e w'=>e = .returned (.agg #[.float .f64 (ofKey (X)),.float .f64 (ofKey (Y))])∧Below w.heap.size w w') (hLC : ∀ w,Calls Tryz.prog 66 #[.int .i64 o,.agg #[.float .f64 (ofKey (A)),.float .f64 (ofKey (B))],.agg #[.float .f64 (ofKey (C)),.float .f64 (ofKey (D))],.agg #[.float .f64 (ofKey (X)),.float .f64 (ofKey (Y))]] w fun e w'=>e = .returned (.int .i64 l)∧Below w.heap.size w w') (w:World) :
  Calls Tryz.prog 34 #[.int .i64 o,.agg #[.float .f64 (a),.float .f64 (b),.int .i64 (d)],.agg #[.float .f64 (a2),.float .f64 (b2),.int .i64 (d2)]] w fun e w'=>e = .returned (.agg #[.float .f64 (ofKey (X)),.float .f64 (ofKey (Y)),.int .i64 (min l (min m n))])∧Below w.heap.size w w':=by
 by_cases hx:m<l
 ·by_cases hy:n<m
  ·rw [show min l (min m n)=n by omega];exact rdo_t11 o a b a2 b2 d d2 A B C D m n rA rB rC rD X Y l rX rY ho hm hn hx hy hOA hOB hAP hLC w
  ·rw [show min l (min m n)=m by omega];exact rdo_t10 o a b a2 b2 d d2 A B C D m n rA rB rC rD X Y l rX rY ho hm hn hx hy hOA hOB hAP hLC w
 ·by_cases hy:n<l
  ·rw [show min l (min m n)=n by omega];exact rdo_t01 o a b a2 b2 d d2 A B C D m n rA rB rC rD X Y l rX rY ho hm hn hx hy hOA hOB hAP hLC w
  ·rw [show min l (min m n)=l by omega];exact rdo_t00 o a b a2 b2 d d2 A B C D m n rA rB rC rD X Y l rX rY ho hm hn hx hy hOA hOB hAP hLC w
theorem rdo_one (o:Int) (a b a2 b2:Nat) (d d2:Int) (A B C D m n X Y l:Int) (rA:Rg A) (rB:Rg B) (rC:Rg C) (rD:Rg D) (rX:Rg X) (rY:Rg Y) (ho:0≤o∧o≤5) (hm : ¬m=0) (h4:m≤4)
  (hOA : ∀ w,Calls Tryz.prog 31 #[.agg #[.float .f64 (a),.float .f64 (b)],.int .i64 d] w fun e w'=>e = .returned (.agg #[.float .f64 (ofKey (A)),.float .f64 (ofKey (B)),.int .i64 (m)])∧Below w.heap.size w w') (hOB : ∀ w,Calls Tryz.prog 31 #[.agg #[.float .f64 (a2),.float .f64 (b2)],.int .i64 d2] w fun e w'=>e = .returned (.agg #[.float .f64 (ofKey (C)),.float .f64 (ofKey (D)),.int .i64 (n)])∧Below w.heap.size w w')
  (hAP : ∀ w,Calls Tryz.prog 23 #[.int .i64 o,.agg #[.float .f64 (ofKey (A)),.float .f64 (ofKey (B))],.agg #[.float .f64 4607182418800017408,.float .f64 4607182418800017408]] w fun e w'=>e = .returned (.agg #[.float .f64 (ofKey (X)),.float .f64 (ofKey (Y))])∧Below w.heap.size w w') (hLC : ∀ w,Calls Tryz.prog 66 #[.int .i64 o,.agg #[.float .f64 (ofKey (A)),.float .f64 (ofKey (B))],.agg #[.float .f64 4607182418800017408,.float .f64 4607182418800017408],.agg #[.float .f64 (ofKey (X)),.float .f64 (ofKey (Y))]] w fun e w'=>e = .returned (.int .i64 l)∧Below w.heap.size w w') (w:World) :
  Calls Tryz.prog 34 #[.int .i64 o,.agg #[.float .f64 (a),.float .f64 (b),.int .i64 (d)],.agg #[.float .f64 (a2),.float .f64 (b2),.int .i64 (d2)]] w fun e w'=>e = .returned (.agg #[.float .f64 (ofKey (X)),.float .f64 (ofKey (Y)),.int .i64 (min l m)])∧Below w.heap.size w w':=by
 by_cases hx:m<l
 ·rw [show min l m=m by omega];exact rdo_o10 o a b a2 b2 d d2 A B C D m n rA rB rC rD X Y l rX rY ho hm hx (by omega) hOA hOB hAP hLC w
 ·by_cases hy:4<l
  ·exfalso;omega
  ·rw [show min l m=l by omega];exact rdo_o00 o a b a2 b2 d d2 A B C D m n rA rB rC rD X Y l rX rY ho hm hx (by omega) hOA hOB hAP hLC w
end Go.Proofs.YteephgpefhodnaaGreat
