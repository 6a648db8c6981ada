/- The document's Decorate, and what it says of an operation. -/
import Derived.Test.YteephgpefhodnaaGreatG1
import Derived.Test.YteephgpefhodnaaGreatD2
namespace Go.Proofs.YteephgpefhodnaaGreat
open Go.RowKit Go.Sort Go.Fl
set_option linter.unusedSimpArgs false
set_option linter.unusedVariables false
theorem refbounded_raw (a b:Nat) (na : ¬nan a) (nb : ¬nan b) (w:World) :
  Calls Tryz.prog 64 #[.agg #[.float .f64 (a),.float .f64 (b)]] w fun e w'=>e = .returned (.bool (decide (Bnd (key a) (key b))))∧Below w.heap.size w w':=by
 have hP:PI=(INF:Int):=rfl
 have ka:=fin_key (x:=a)
 have kb:=fin_key (x:=b)
 by_cases h1:fin a
 ·by_cases h2:fin b
  ·have FA:=Lib.hid (fun w=>reffin_yes a h1 w)
   have FB:=Lib.hid (fun w=>reffin_yes b h2 w)
   rw [show decide (Bnd (key a) (key b))=true from decide_eq_true (by have:=ka.1 h1;have:=kb.1 h2;unfold Bnd;omega)]
   clear ka kb h1 h2
   go_enter Tryz.func64,Tryz.ntmps64
   go_wp2_with fail
   refine (FA.out _).mono ?_;rintro e w1 ⟨rfl,hb⟩
   have H:=Hold.i2.below hb;clear hb;have F:=H.f;dsimp only [Fac] at F
   go_wp2_with fail
   refine (FB.out _).mono ?_;rintro e w2 ⟨rfl,hb⟩
   replace H:=H.below hb;clear hb;replace F:=H.f;dsimp only [Fac] at F
   go_wp2_with fail
   go_ret
   exact ⟨rfl,H.B⟩
  ·have FA:=Lib.hid (fun w=>reffin_yes a h1 w)
   have FB:=Lib.hid (fun w=>reffin_no b h2 w)
   rw [show decide (Bnd (key a) (key b))=false from decide_eq_false (fun h=>h2 (kb.2 (by unfold Bnd at h;omega)))]
   clear ka kb h1 h2
   go_enter Tryz.func64,Tryz.ntmps64
   go_wp2_with fail
   refine (FA.out _).mono ?_;rintro e w1 ⟨rfl,hb⟩
   have H:=Hold.i2.below hb;clear hb;have F:=H.f;dsimp only [Fac] at F
   go_wp2_with fail
   refine (FB.out _).mono ?_;rintro e w2 ⟨rfl,hb⟩
   replace H:=H.below hb;clear hb;replace F:=H.f;dsimp only [Fac] at F
   go_wp2_with fail
   go_ret
   exact ⟨rfl,H.B⟩
 ·by_cases h2:fin b
  ·have FA:=Lib.hid (fun w=>reffin_no a h1 w)
   have FB:=Lib.hid (fun w=>reffin_yes b h2 w)
   rw [show decide (Bnd (key a) (key b))=false from decide_eq_false (fun h=>h1 (ka.2 (by unfold Bnd at h;omega)))]
   clear ka kb h1 h2
   go_enter Tryz.func64,Tryz.ntmps64
   go_wp2_with fail
   refine (FA.out _).mono ?_;rintro e w1 ⟨rfl,hb⟩
   have H:=Hold.i2.below hb;clear hb;have F:=H.f;dsimp only [Fac] at F
   go_wp2_with fail
   refine (FB.out _).mono ?_;rintro e w2 ⟨rfl,hb⟩
   replace H:=H.below hb;clear hb;replace F:=H.f;dsimp only [Fac] at F
   go_wp2_with fail
   go_ret
   exact ⟨rfl,H.B⟩
  ·have FA:=Lib.hid (fun w=>reffin_no a h1 w)
   have FB:=Lib.hid (fun w=>reffin_no b h2 w)
   rw [show decide (Bnd (key a) (key b))=false from decide_eq_false (fun h=>h1 (ka.2 (by unfold Bnd at h;omega)))]
   clear ka kb h1 h2
   go_enter Tryz.func64,Tryz.ntmps64
   go_wp2_with fail
   refine (FA.out _).mono ?_;rintro e w1 ⟨rfl,hb⟩
   have H:=Hold.i2.below hb;clear hb;have F:=H.f;dsimp only [Fac] at F
   go_wp2_with fail
   refine (FB.out _).mono ?_;rintro e w2 ⟨rfl,hb⟩
   replace H:=H.below hb;clear hb;replace F:=H.f;dsimp only [Fac] at F
   go_wp2_with fail
   go_ret
   exact ⟨rfl,H.B⟩
theorem refno_w (a b:Nat) (na : ¬nan a) (nb : ¬nan b) (w:World) :
  Calls Tryz.prog 52 #[.agg #[.float .f64 (a),.float .f64 (b)]] w fun e w'=>e = .returned (.bool (decide (key b<key a)))∧Below w.heap.size w w':=by
 have h:=refno_raw a b w
 rw [ord_key na nb,cmp_gt] at h
 exact h
theorem refbnd_yes {a b:Int} (ha:Rg a) (hb:Rg b) (h:Bnd a b) : ∀ w,Calls Tryz.prog 64 #[.agg #[.float .f64 (ofKey (a)),.float .f64 (ofKey (b))]] w fun e w'=>e = .returned (.bool true)∧Below w.heap.size w w':=fun w=>by
 have:=refbounded_raw (ofKey a) (ofKey b) (not_nan_ofKey ha) (not_nan_ofKey hb) w
 rw [key_ofKey ha,key_ofKey hb,decide_eq_true h] at this;exact this
theorem refbnd_no {a b:Int} (ha:Rg a) (hb:Rg b) (h : ¬Bnd a b) : ∀ w,Calls Tryz.prog 64 #[.agg #[.float .f64 (ofKey (a)),.float .f64 (ofKey (b))]] w fun e w'=>e = .returned (.bool false)∧Below w.heap.size w w':=fun w=>by
 have:=refbounded_raw (ofKey a) (ofKey b) (not_nan_ofKey ha) (not_nan_ofKey hb) w
 rw [key_ofKey ha,key_ofKey hb,decide_eq_false h] at this;exact this
theorem refwhole_k (k:Int) (h:Rg k) (w:World) :
  Calls Tryz.prog 95 #[.float .f64 (ofKey (k))] w fun e w'=>e = .returned (.bool (decide (floorK k=k)))∧w=w':=by
 have q:=floorK_rg h
 have FA:=Lib.hid (fun w=>floor_any k h w)
 generalize floorK k=f at *
 go_enter Tryz.func95,Tryz.ntmps95
 go_wp2_with (go_at_call 89;refine (FA.out _).mono ?_;rintro e w' ⟨rfl,rfl⟩)
 go_ret
 exact ⟨rfl,rfl⟩
set_option maxRecDepth 4000 in
set_option maxHeartbeats 1000000 in
theorem rd_ill3 (a b:Nat) (d:Int) (wa:Wd a) (wb:Wd b) (hg:good a b=false) (w:World) :
  Calls Tryz.prog 31 #[.agg #[.float .f64 (a),.float .f64 (b)],.int .i64 d] w fun e w'=>e = .returned (.agg #[.float .f64 (ofKey (PI)),.float .f64 (ofKey (-PI)),.int .i64 (0)])∧Below w.heap.size w w':=by
 have hG:=fun w=>refgood_any a b w
 rw [hg] at hG
 clear hg
 have GD:=Lib.hid hG
 clear hG
 go_enter Tryz.func31,Tryz.ntmps31
 go_wp2_with fail
 refine (GD.out _).mono ?_;rintro e w1 ⟨rfl,hb⟩
 have H:=Hold.i23.below hb;clear hb;have F:=H.f;dsimp only [Fac] at F
 go_wp2_with fail
 refine (refempty_any _).mono ?_;rintro e w2 ⟨rfl,hb⟩
 replace H:=H.below hb;clear hb;replace F:=H.f;dsimp only [Fac] at F
 go_wp2_with fail
 refine (((H.set 2 _).set 3 _).set 4 _).gob ?_;clear H F;intro wz H;dsimp only [upd] at H;have F:=H.f;dsimp only [Fac] at F
 refine bodyPost_ret (by simp [results,Tryz.results31,go_sem,F]) rfl ⟨rfl,?_⟩;exact H.B
set_option maxRecDepth 4000 in
set_option maxHeartbeats 1000000 in
theorem rd_ill1 (a b:Nat) (d:Int) (wa:Wd a) (wb:Wd b) (hg:good a b=true) (h:d≤0) (w:World) :
  Calls Tryz.prog 31 #[.agg #[.float .f64 (a),.float .f64 (b)],.int .i64 d] w fun e w'=>e = .returned (.agg #[.float .f64 (ofKey (PI)),.float .f64 (ofKey (-PI)),.int .i64 (0)])∧Below w.heap.size w w':=by
 have hG:=fun w=>refgood_any a b w
 rw [hg] at hG
 clear hg
 have GD:=Lib.hid hG
 clear hG
 go_enter Tryz.func31,Tryz.ntmps31
 go_wp2_with fail
 refine (GD.out _).mono ?_;rintro e w1 ⟨rfl,hb⟩
 have H:=Hold.i23.below hb;clear hb;have F:=H.f;dsimp only [Fac] at F
 go_wp2_with fail
 refine (refempty_any _).mono ?_;rintro e w2 ⟨rfl,hb⟩
 replace H:=H.below hb;clear hb;replace F:=H.f;dsimp only [Fac] at F
 go_wp2_with fail
 refine (((H.set 2 _).set 3 _).set 4 _).gob ?_;clear H F;intro wz H;dsimp only [upd] at H;have F:=H.f;dsimp only [Fac] at F
 refine bodyPost_ret (by simp [results,Tryz.results31,go_sem,F]) rfl ⟨rfl,?_⟩;exact H.B
set_option maxRecDepth 4000 in
set_option maxHeartbeats 1000000 in
theorem rd_ill2 (a b:Nat) (d:Int) (wa:Wd a) (wb:Wd b) (hg:good a b=true) (h0 : ¬d≤0) (h:4<d) (w:World) :
  Calls Tryz.prog 31 #[.agg #[.float .f64 (a),.float .f64 (b)],.int .i64 d] w fun e w'=>e = .returned (.agg #[.float .f64 (ofKey (PI)),.float .f64 (ofKey (-PI)),.int .i64 (0)])∧Below w.heap.size w w':=by
 have hG:=fun w=>refgood_any a b w
 rw [hg] at hG
 clear hg
 have GD:=Lib.hid hG
 clear hG
 go_enter Tryz.func31,Tryz.ntmps31
 go_wp2_with fail
 refine (GD.out _).mono ?_;rintro e w1 ⟨rfl,hb⟩
 have H:=Hold.i23.below hb;clear hb;have F:=H.f;dsimp only [Fac] at F
 go_wp2_with fail
 refine (refempty_any _).mono ?_;rintro e w2 ⟨rfl,hb⟩
 replace H:=H.below hb;clear hb;replace F:=H.f;dsimp only [Fac] at F
 go_wp2_with fail
 refine (((H.set 2 _).set 3 _).set 4 _).gob ?_;clear H F;intro wz H;dsimp only [upd] at H;have F:=H.f;dsimp only [Fac] at F
 refine bodyPost_ret (by simp [results,Tryz.results31,go_sem,F]) rfl ⟨rfl,?_⟩;exact H.B
set_option maxRecDepth 4000 in
set_option maxHeartbeats 1000000 in
theorem rd_empty (a b:Nat) (d:Int) (wa:Wd a) (wb:Wd b) (h0 : ¬d≤0) (h : ¬4<d) (hg:good a b=true) (na : ¬nan a) (nb : ¬nan b) (he:key b<key a) (hb : ¬Bnd (key a) (key b)) (w:World) :
  Calls Tryz.prog 31 #[.agg #[.float .f64 (a),.float .f64 (b)],.int .i64 d] w fun e w'=>e = .returned (.agg #[.float .f64 (ofKey (tkLo a b)),.float .f64 (ofKey (tkHi a b)),.int .i64 (1)])∧Below w.heap.size w w':=by
 have hG:=fun w=>refgood_any a b w
 rw [hg] at hG
 have GD:=Lib.hid hG
 have TK:=Lib.hid (fun w=>reftaken_any a b wa wb w)
 have hN:=fun w=>refno_w a b na nb w
 rw [decide_eq_true he] at hN
 have NO:=Lib.hid hN
 have hB:=fun w=>refbounded_raw a b na nb w
 rw [decide_eq_false hb] at hB
 have BD:=Lib.hid hB
 clear hG hg hN hB hb he
 have qA:=(tk_iv a b).1
 have qB:=(tk_iv a b).2.1
 generalize tkLo a b=A at *
 generalize tkHi a b=Bh at *
 go_enter Tryz.func31,Tryz.ntmps31
 go_wp2_with fail
 refine (GD.out _).mono ?_;rintro e w1 ⟨rfl,hb⟩
 have H:=Hold.i23.below hb;clear hb;have F:=H.f;dsimp only [Fac] at F
 go_wp2_with fail
 refine (NO.out _).mono ?_;rintro e w2 ⟨rfl,hb⟩
 replace H:=H.below hb;clear hb;replace F:=H.f;dsimp only [Fac] at F
 go_wp2_with fail
 refine (BD.out _).mono ?_;rintro e w3 ⟨rfl,hb⟩
 replace H:=H.below hb;clear hb;replace F:=H.f;dsimp only [Fac] at F
 go_wp2_with fail
 refine (TK.out _).mono ?_;rintro e w4 ⟨rfl,hb⟩
 replace H:=H.below hb;clear hb;replace F:=H.f;dsimp only [Fac] at F
 go_wp2_with fail
 refine (((H.set 2 _).set 3 _).set 4 _).gob ?_;clear H F;intro wz H;dsimp only [upd] at H;have F:=H.f;dsimp only [Fac] at F
 refine bodyPost_ret (by simp [results,Tryz.results31,go_sem,F]) rfl ⟨rfl,?_⟩;exact H.B
set_option maxRecDepth 4000 in
set_option maxHeartbeats 1000000 in
theorem rd_bnd4 (a b:Nat) (d:Int) (wa:Wd a) (wb:Wd b) (h0 : ¬d≤0) (h : ¬4<d) (hg:good a b=true) (na : ¬nan a) (nb : ¬nan b) (he : ¬key b<key a) (hb:Bnd (key a) (key b)) (h4:d=4) (w:World) :
  Calls Tryz.prog 31 #[.agg #[.float .f64 (a),.float .f64 (b)],.int .i64 d] w fun e w'=>e = .returned (.agg #[.float .f64 (ofKey (tkLo a b)),.float .f64 (ofKey (tkHi a b)),.int .i64 (4)])∧Below w.heap.size w w':=by
 have hG:=fun w=>refgood_any a b w
 rw [hg] at hG
 have GD:=Lib.hid hG
 have TK:=Lib.hid (fun w=>reftaken_any a b wa wb w)
 have hN:=fun w=>refno_w a b na nb w
 rw [decide_eq_false he] at hN
 have NO:=Lib.hid hN
 have hB:=fun w=>refbounded_raw a b na nb w
 rw [decide_eq_true hb] at hB
 have BD:=Lib.hid hB
 clear hG hg hN hB hb he
 have qA:=(tk_iv a b).1
 have qB:=(tk_iv a b).2.1
 generalize tkLo a b=A at *
 generalize tkHi a b=Bh at *
 go_enter Tryz.func31,Tryz.ntmps31
 subst h4
 go_wp2_with fail
 refine (GD.out _).mono ?_;rintro e w1 ⟨rfl,hb⟩
 have H:=Hold.i23.below hb;clear hb;have F:=H.f;dsimp only [Fac] at F
 go_wp2_with fail
 refine (NO.out _).mono ?_;rintro e w2 ⟨rfl,hb⟩
 replace H:=H.below hb;clear hb;replace F:=H.f;dsimp only [Fac] at F
 go_wp2_with fail
 refine (BD.out _).mono ?_;rintro e w3 ⟨rfl,hb⟩
 replace H:=H.below hb;clear hb;replace F:=H.f;dsimp only [Fac] at F
 go_wp2_with fail
 refine (TK.out _).mono ?_;rintro e w4 ⟨rfl,hb⟩
 replace H:=H.below hb;clear hb;replace F:=H.f;dsimp only [Fac] at F
 go_wp2_with fail
 refine (((H.set 2 _).set 3 _).set 4 _).gob ?_;clear H F;intro wz H;dsimp only [upd] at H;have F:=H.f;dsimp only [Fac] at F
 refine bodyPost_ret (by simp [results,Tryz.results31,go_sem,F]) rfl ⟨rfl,?_⟩;exact H.B
set_option maxRecDepth 4000 in
set_option maxHeartbeats 1000000 in
theorem rd_bnd (a b:Nat) (d:Int) (wa:Wd a) (wb:Wd b) (h0 : ¬d≤0) (h : ¬4<d) (hg:good a b=true) (na : ¬nan a) (nb : ¬nan b) (he : ¬key b<key a) (hb:Bnd (key a) (key b)) (h4 : ¬d=4) (w:World) :
  Calls Tryz.prog 31 #[.agg #[.float .f64 (a),.float .f64 (b)],.int .i64 d] w fun e w'=>e = .returned (.agg #[.float .f64 (ofKey (tkLo a b)),.float .f64 (ofKey (tkHi a b)),.int .i64 (d)])∧Below w.heap.size w w':=by
 have hG:=fun w=>refgood_any a b w
 rw [hg] at hG
 have GD:=Lib.hid hG
 have TK:=Lib.hid (fun w=>reftaken_any a b wa wb w)
 have hN:=fun w=>refno_w a b na nb w
 rw [decide_eq_false he] at hN
 have NO:=Lib.hid hN
 have hB:=fun w=>refbounded_raw a b na nb w
 rw [decide_eq_true hb] at hB
 have BD:=Lib.hid hB
 clear hG hg hN hB hb he
 have qA:=(tk_iv a b).1
 have qB:=(tk_iv a b).2.1
 generalize tkLo a b=A at *
 generalize tkHi a b=Bh at *
 go_enter Tryz.func31,Tryz.ntmps31
 go_wp2_with fail
 refine (GD.out _).mono ?_;rintro e w1 ⟨rfl,hb⟩
 have H:=Hold.i23.below hb;clear hb;have F:=H.f;dsimp only [Fac] at F
 go_wp2_with fail
 refine (NO.out _).mono ?_;rintro e w2 ⟨rfl,hb⟩
 replace H:=H.below hb;clear hb;replace F:=H.f;dsimp only [Fac] at F
 go_wp2_with fail
 refine (BD.out _).mono ?_;rintro e w3 ⟨rfl,hb⟩
 replace H:=H.below hb;clear hb;replace F:=H.f;dsimp only [Fac] at F
 go_wp2_with fail
 refine (TK.out _).mono ?_;rintro e w4 ⟨rfl,hb⟩
 replace H:=H.below hb;clear hb;replace F:=H.f;dsimp only [Fac] at F
 go_wp2_with fail
 refine (((H.set 2 _).set 3 _).set 4 _).gob ?_;clear H F;intro wz H;dsimp only [upd] at H;have F:=H.f;dsimp only [Fac] at F
 refine bodyPost_ret (by simp [results,Tryz.results31,go_sem,F]) rfl ⟨rfl,?_⟩;exact H.B
set_option maxRecDepth 4000 in
set_option maxHeartbeats 1000000 in
theorem rd_unb4 (a b:Nat) (d:Int) (wa:Wd a) (wb:Wd b) (h0 : ¬d≤0) (h : ¬4<d) (hg:good a b=true) (na : ¬nan a) (nb : ¬nan b) (he : ¬key b<key a) (hb : ¬Bnd (key a) (key b)) (h4:d=4) (w:World) :
  Calls Tryz.prog 31 #[.agg #[.float .f64 (a),.float .f64 (b)],.int .i64 d] w fun e w'=>e = .returned (.agg #[.float .f64 (ofKey (tkLo a b)),.float .f64 (ofKey (tkHi a b)),.int .i64 (3)])∧Below w.heap.size w w':=by
 have hG:=fun w=>refgood_any a b w
 rw [hg] at hG
 have GD:=Lib.hid hG
 have TK:=Lib.hid (fun w=>reftaken_any a b wa wb w)
 have hN:=fun w=>refno_w a b na nb w
 rw [decide_eq_false he] at hN
 have NO:=Lib.hid hN
 have hB:=fun w=>refbounded_raw a b na nb w
 rw [decide_eq_false hb] at hB
 have BD:=Lib.hid hB
 clear hG hg hN hB hb he
 have qA:=(tk_iv a b).1
 have qB:=(tk_iv a b).2.1
 generalize tkLo a b=A at *
 generalize tkHi a b=Bh at *
 go_enter Tryz.func31,Tryz.ntmps31
 subst h4
 go_wp2_with fail
 refine (GD.out _).mono ?_;rintro e w1 ⟨rfl,hb⟩
 have H:=Hold.i23.below hb;clear hb;have F:=H.f;dsimp only [Fac] at F
 go_wp2_with fail
 refine (NO.out _).mono ?_;rintro e w2 ⟨rfl,hb⟩
 replace H:=H.below hb;clear hb;replace F:=H.f;dsimp only [Fac] at F
 go_wp2_with fail
 refine (BD.out _).mono ?_;rintro e w3 ⟨rfl,hb⟩
 replace H:=H.below hb;clear hb;replace F:=H.f;dsimp only [Fac] at F
 go_wp2_with fail
 refine (TK.out _).mono ?_;rintro e w4 ⟨rfl,hb⟩
 replace H:=H.below hb;clear hb;replace F:=H.f;dsimp only [Fac] at F
 go_wp2_with fail
 refine (((H.set 2 _).set 3 _).set 4 _).gob ?_;clear H F;intro wz H;dsimp only [upd] at H;have F:=H.f;dsimp only [Fac] at F
 refine bodyPost_ret (by simp [results,Tryz.results31,go_sem,F]) rfl ⟨rfl,?_⟩;exact H.B
set_option maxRecDepth 4000 in
set_option maxHeartbeats 1000000 in
theorem rd_unb (a b:Nat) (d:Int) (wa:Wd a) (wb:Wd b) (h0 : ¬d≤0) (h : ¬4<d) (hg:good a b=true) (na : ¬nan a) (nb : ¬nan b) (he : ¬key b<key a) (hb : ¬Bnd (key a) (key b)) (h4 : ¬d=4) (w:World) :
  Calls Tryz.prog 31 #[.agg #[.float .f64 (a),.float .f64 (b)],.int .i64 d] w fun e w'=>e = .returned (.agg #[.float .f64 (ofKey (tkLo a b)),.float .f64 (ofKey (tkHi a b)),.int .i64 (d)])∧Below w.heap.size w w':=by
 have hG:=fun w=>refgood_any a b w
 rw [hg] at hG
 have GD:=Lib.hid hG
 have TK:=Lib.hid (fun w=>reftaken_any a b wa wb w)
 have hN:=fun w=>refno_w a b na nb w
 rw [decide_eq_false he] at hN
 have NO:=Lib.hid hN
 have hB:=fun w=>refbounded_raw a b na nb w
 rw [decide_eq_false hb] at hB
 have BD:=Lib.hid hB
 clear hG hg hN hB hb he
 have qA:=(tk_iv a b).1
 have qB:=(tk_iv a b).2.1
 generalize tkLo a b=A at *
 generalize tkHi a b=Bh at *
 go_enter Tryz.func31,Tryz.ntmps31
 go_wp2_with fail
 refine (GD.out _).mono ?_;rintro e w1 ⟨rfl,hb⟩
 have H:=Hold.i23.below hb;clear hb;have F:=H.f;dsimp only [Fac] at F
 go_wp2_with fail
 refine (NO.out _).mono ?_;rintro e w2 ⟨rfl,hb⟩
 replace H:=H.below hb;clear hb;replace F:=H.f;dsimp only [Fac] at F
 go_wp2_with fail
 refine (BD.out _).mono ?_;rintro e w3 ⟨rfl,hb⟩
 replace H:=H.below hb;clear hb;replace F:=H.f;dsimp only [Fac] at F
 go_wp2_with fail
 refine (TK.out _).mono ?_;rintro e w4 ⟨rfl,hb⟩
 replace H:=H.below hb;clear hb;replace F:=H.f;dsimp only [Fac] at F
 go_wp2_with fail
 refine (((H.set 2 _).set 3 _).set 4 _).gob ?_;clear H F;intro wz H;dsimp only [upd] at H;have F:=H.f;dsimp only [Fac] at F
 refine bodyPost_ret (by simp [results,Tryz.results31,go_sem,F]) rfl ⟨rfl,?_⟩;exact H.B
theorem refdecorate_any (a b:Nat) (d:Int) (wa:Wd a) (wb:Wd b) (w:World) :
  Calls Tryz.prog 31 #[.agg #[.float .f64 (a),.float .f64 (b)],.int .i64 d] w fun e w'=>e = .returned (.agg #[.float .f64 (ofKey (dLo a b d)),.float .f64 (ofKey (dHi a b d)),.int .i64 (dD a b d)])∧Below w.heap.size w w':=by
 unfold dLo dHi dD
 by_cases hg:good a b=true
 ·by_cases h0:d≤0
  ·have hi:dIll a b d := .inl h0
   rw [if_pos hi,if_pos hi,if_pos hi];exact rd_ill1 a b d wa wb hg h0 w
  by_cases h:4<d
  ·have hi:dIll a b d := .inr (.inl h)
   rw [if_pos hi,if_pos hi,if_pos hi];exact rd_ill2 a b d wa wb hg h0 h w
  have hi : ¬dIll a b d:=by unfold dIll;rw [hg];simp;omega
  rw [if_neg hi,if_neg hi,if_neg hi]
  obtain ⟨na,nb,hc⟩:=good_cases hg
  have ea:tkLo a b=key a:=by unfold tkLo;rw [if_pos hg]
  have eb:tkHi a b=key b:=by unfold tkHi;rw [if_pos hg]
  have hP:=PI_pos
  by_cases he:key a=PI∧key b = -PI
  ·rw [if_pos (by rw [ea,eb];exact he)]
   exact rd_empty a b d wa wb h0 h hg na nb (by omega) (by unfold Bnd;omega) w
  ·rw [if_neg (by rw [ea,eb];exact he)]
   have he' : ¬key b<key a:=by omega
   by_cases hb:Bnd (key a) (key b)
   ·rw [if_pos (by rw [ea,eb];exact hb)]
    by_cases h4:d=4
    ·have:=rd_bnd4 a b d wa wb h0 h hg na nb he' hb h4 w
     rw [show (4:Int)=d from h4.symm] at this
     exact this
    ·exact rd_bnd a b d wa wb h0 h hg na nb he' hb h4 w
   ·rw [if_neg (by rw [ea,eb];exact hb)]
    by_cases h4:d=4
    ·rw [show min d 3=3 by omega];exact rd_unb4 a b d wa wb h0 h hg na nb he' hb h4 w
    ·rw [show min d 3=d by omega];exact rd_unb a b d wa wb h0 h hg na nb he' hb h4 w
 ·have hi:dIll a b d := .inr (.inr (by simpa using hg))
  rw [if_pos hi,if_pos hi,if_pos hi];exact rd_ill3 a b d wa wb (by simpa using hg) w
def rlocK (o A B C D X Y:Int):Int :=
 if B<A∨D<C∨(o=3∧A<0)∨(o=5∧A≤0∧0≤B)∨(o=9∧C≤0∧0≤D) then 1
 else if o=4 ∧ ¬(Bnd A B∧floorK A=floorK B) then 2 else if o=4∧floorK A=A then 3
 else if Bnd A B∧Bnd C D∧Bnd X Y then 4 else 3
set_option maxRecDepth 4000 in
set_option maxHeartbeats 1000000 in
theorem loc_e0 (o:Int) (A Bh C D X Y:Int) (rA:Rg A) (rBh:Rg Bh) (rC:Rg C) (rD:Rg D) (rX:Rg X) (rY:Rg Y) (h1:Bh<A) (h2 : ¬D<C) (w:World) :
  Calls Tryz.prog 66 #[.int .i64 o,.agg #[.float .f64 (ofKey (A)),.float .f64 (ofKey (Bh))],.agg #[.float .f64 (ofKey (C)),.float .f64 (ofKey (D))],.agg #[.float .f64 (ofKey (X)),.float .f64 (ofKey (Y))]] w fun e w'=>e = .returned (.int .i64 1)∧Below w.heap.size w w':=by
 have nA:=fun w=>refno_any A Bh rA rBh w
 rw [decide_eq_true (by omega:Bh<A)] at nA
 have NA:=Lib.hid nA
 clear nA
 have nC:=fun w=>refno_any C D rC rD w
 rw [decide_eq_false (by omega : ¬D<C)] at nC
 have NC:=Lib.hid nC
 clear nC
 clear h1 h2
 go_enter Tryz.func66,Tryz.ntmps66
 go_wp2_with fail
 refine (NA.out _).mono ?_;rintro e w1 ⟨rfl,hb⟩
 have H:=Hold.i222.below hb;clear hb;have F:=H.f;dsimp only [Fac] at F
 go_wp2_with fail
 refine (NC.out _).mono ?_;rintro e w2 ⟨rfl,hb⟩
 replace H:=H.below hb;clear hb;replace F:=H.f;dsimp only [Fac] at F
 go_wp2_with fail
 go_ret
 exact ⟨rfl,H.B⟩
set_option maxRecDepth 4000 in
set_option maxHeartbeats 1000000 in
theorem loc_e1 (o:Int) (A Bh C D X Y:Int) (rA:Rg A) (rBh:Rg Bh) (rC:Rg C) (rD:Rg D) (rX:Rg X) (rY:Rg Y) (h1:Bh<A) (h2:D<C) (w:World) :
  Calls Tryz.prog 66 #[.int .i64 o,.agg #[.float .f64 (ofKey (A)),.float .f64 (ofKey (Bh))],.agg #[.float .f64 (ofKey (C)),.float .f64 (ofKey (D))],.agg #[.float .f64 (ofKey (X)),.float .f64 (ofKey (Y))]] w fun e w'=>e = .returned (.int .i64 1)∧Below w.heap.size w w':=by
 have nA:=fun w=>refno_any A Bh rA rBh w
 rw [decide_eq_true (by omega:Bh<A)] at nA
 have NA:=Lib.hid nA
 clear nA
 have nC:=fun w=>refno_any C D rC rD w
 rw [decide_eq_true (by omega:D<C)] at nC
 have NC:=Lib.hid nC
 clear nC
 clear h1 h2
 go_enter Tryz.func66,Tryz.ntmps66
 go_wp2_with fail
 refine (NA.out _).mono ?_;rintro e w1 ⟨rfl,hb⟩
 have H:=Hold.i222.below hb;clear hb;have F:=H.f;dsimp only [Fac] at F
 go_wp2_with fail
 refine (NC.out _).mono ?_;rintro e w2 ⟨rfl,hb⟩
 replace H:=H.below hb;clear hb;replace F:=H.f;dsimp only [Fac] at F
 go_wp2_with fail
 go_ret
 exact ⟨rfl,H.B⟩
set_option maxRecDepth 4000 in
set_option maxHeartbeats 1000000 in
theorem loc_e2 (o:Int) (A Bh C D X Y:Int) (rA:Rg A) (rBh:Rg Bh) (rC:Rg C) (rD:Rg D) (rX:Rg X) (rY:Rg Y) (h1 : ¬Bh<A) (h2:D<C) (w:World) :
  Calls Tryz.prog 66 #[.int .i64 o,.agg #[.float .f64 (ofKey (A)),.float .f64 (ofKey (Bh))],.agg #[.float .f64 (ofKey (C)),.float .f64 (ofKey (D))],.agg #[.float .f64 (ofKey (X)),.float .f64 (ofKey (Y))]] w fun e w'=>e = .returned (.int .i64 1)∧Below w.heap.size w w':=by
 have nA:=fun w=>refno_any A Bh rA rBh w
 rw [decide_eq_false (by omega : ¬Bh<A)] at nA
 have NA:=Lib.hid nA
 clear nA
 have nC:=fun w=>refno_any C D rC rD w
 rw [decide_eq_true (by omega:D<C)] at nC
 have NC:=Lib.hid nC
 clear nC
 clear h1 h2
 go_enter Tryz.func66,Tryz.ntmps66
 go_wp2_with fail
 refine (NA.out _).mono ?_;rintro e w1 ⟨rfl,hb⟩
 have H:=Hold.i222.below hb;clear hb;have F:=H.f;dsimp only [Fac] at F
 go_wp2_with fail
 refine (NC.out _).mono ?_;rintro e w2 ⟨rfl,hb⟩
 replace H:=H.below hb;clear hb;replace F:=H.f;dsimp only [Fac] at F
 go_wp2_with fail
 go_ret
 exact ⟨rfl,H.B⟩
set_option maxRecDepth 4000 in
set_option maxHeartbeats 1000000 in
theorem loc_t (o:Int) (A Bh C D X Y:Int) (rA:Rg A) (rBh:Rg Bh) (rC:Rg C) (rD:Rg D) (rX:Rg X) (rY:Rg Y) (h1 : ¬Bh<A) (h2 : ¬D<C) (h:(o=3∧A<0)∨(o=5∧A≤0∧0≤Bh)∨(o=9∧C≤0∧0≤D)) (w:World) :
  Calls Tryz.prog 66 #[.int .i64 o,.agg #[.float .f64 (ofKey (A)),.float .f64 (ofKey (Bh))],.agg #[.float .f64 (ofKey (C)),.float .f64 (ofKey (D))],.agg #[.float .f64 (ofKey (X)),.float .f64 (ofKey (Y))]] w fun e w'=>e = .returned (.int .i64 1)∧Below w.heap.size w w':=by
 have nA:=fun w=>refno_any A Bh rA rBh w
 rw [decide_eq_false (by omega : ¬Bh<A)] at nA
 have NA:=Lib.hid nA
 clear nA
 have nC:=fun w=>refno_any C D rC rD w
 rw [decide_eq_false (by omega : ¬D<C)] at nC
 have NC:=Lib.hid nC
 clear nC
 rcases h with ⟨rfl,h⟩|⟨rfl,h3,h4⟩|⟨rfl,h3,h4⟩
 all_goals
  go_enter Tryz.func66,Tryz.ntmps66
  go_wp2_with fail
  refine (NA.out _).mono ?_;rintro e w1 ⟨rfl,hb⟩
  have H:=Hold.i222.below hb;clear hb;have F:=H.f;dsimp only [Fac] at F
  go_wp2_with fail
  refine (NC.out _).mono ?_;rintro e w2 ⟨rfl,hb⟩
  replace H:=H.below hb;clear hb;replace F:=H.f;dsimp only [Fac] at F
  go_wp2_with fail
  go_ret
  exact ⟨rfl,H.B⟩
set_option maxRecDepth 4000 in
set_option maxHeartbeats 1000000 in
theorem loc_F (o:Int) (A Bh C D X Y:Int) (rA:Rg A) (rBh:Rg Bh) (rC:Rg C) (rD:Rg D) (rX:Rg X) (rY:Rg Y) (q r:Bool) (h1 : ¬Bh<A) (h2 : ¬D<C) (h:(o=3∧0≤A)∨(o=5∧0<A)∨(o=5∧A≤0∧Bh<0)∨(o=9∧0<C)∨(o=9∧C≤0∧D<0)∨(¬o=3 ∧ ¬o=4 ∧ ¬o=5 ∧ ¬o=9)) (hBA : ∀ w,Calls Tryz.prog 64 #[.agg #[.float .f64 (ofKey (A)),.float .f64 (ofKey (Bh))]] w fun e w'=>e = .returned (.bool false)∧Below w.heap.size w w') (hBC : ∀ w,Calls Tryz.prog 64 #[.agg #[.float .f64 (ofKey (C)),.float .f64 (ofKey (D))]] w fun e w'=>e = .returned (.bool q)∧Below w.heap.size w w') (hBX : ∀ w,Calls Tryz.prog 64 #[.agg #[.float .f64 (ofKey (X)),.float .f64 (ofKey (Y))]] w fun e w'=>e = .returned (.bool r)∧Below w.heap.size w w') (w:World) :
  Calls Tryz.prog 66 #[.int .i64 o,.agg #[.float .f64 (ofKey (A)),.float .f64 (ofKey (Bh))],.agg #[.float .f64 (ofKey (C)),.float .f64 (ofKey (D))],.agg #[.float .f64 (ofKey (X)),.float .f64 (ofKey (Y))]] w fun e w'=>e = .returned (.int .i64 3)∧Below w.heap.size w w':=by
 have nA:=fun w=>refno_any A Bh rA rBh w
 rw [decide_eq_false (by omega : ¬Bh<A)] at nA
 have NA:=Lib.hid nA
 clear nA
 have nC:=fun w=>refno_any C D rC rD w
 rw [decide_eq_false (by omega : ¬D<C)] at nC
 have NC:=Lib.hid nC
 clear nC
 have BA:=Lib.hid hBA
 have BC:=Lib.hid hBC
 have BX:=Lib.hid hBX
 clear hBA hBC hBX
 rcases h with ⟨rfl,h⟩|⟨rfl,h⟩|⟨rfl,h,h5⟩|⟨rfl,h⟩|⟨rfl,h,h5⟩|⟨h3,h4,h5,h9⟩
 all_goals
  go_enter Tryz.func66,Tryz.ntmps66
  go_wp2_with fail
  refine (NA.out _).mono ?_;rintro e w1 ⟨rfl,hb⟩
  have H:=Hold.i222.below hb;clear hb;have F:=H.f;dsimp only [Fac] at F
  go_wp2_with fail
  refine (NC.out _).mono ?_;rintro e w2 ⟨rfl,hb⟩
  replace H:=H.below hb;clear hb;replace F:=H.f;dsimp only [Fac] at F
  go_wp2_with fail
  refine (BA.out _).mono ?_;rintro e w3 ⟨rfl,hb⟩
  replace H:=H.below hb;clear hb;replace F:=H.f;dsimp only [Fac] at F
  go_wp2_with fail
  refine (BC.out _).mono ?_;rintro e w4 ⟨rfl,hb⟩
  replace H:=H.below hb;clear hb;replace F:=H.f;dsimp only [Fac] at F
  go_wp2_with fail
  refine (BX.out _).mono ?_;rintro e w5 ⟨rfl,hb⟩
  replace H:=H.below hb;clear hb;replace F:=H.f;dsimp only [Fac] at F
  go_wp2_with fail
  go_ret
  exact ⟨rfl,H.B⟩
set_option maxRecDepth 4000 in
set_option maxHeartbeats 1000000 in
theorem loc_TF (o:Int) (A Bh C D X Y:Int) (rA:Rg A) (rBh:Rg Bh) (rC:Rg C) (rD:Rg D) (rX:Rg X) (rY:Rg Y) (r:Bool) (h1 : ¬Bh<A) (h2 : ¬D<C) (h:(o=3∧0≤A)∨(o=5∧0<A)∨(o=5∧A≤0∧Bh<0)∨(o=9∧0<C)∨(o=9∧C≤0∧D<0)∨(¬o=3 ∧ ¬o=4 ∧ ¬o=5 ∧ ¬o=9)) (hBA : ∀ w,Calls Tryz.prog 64 #[.agg #[.float .f64 (ofKey (A)),.float .f64 (ofKey (Bh))]] w fun e w'=>e = .returned (.bool true)∧Below w.heap.size w w') (hBC : ∀ w,Calls Tryz.prog 64 #[.agg #[.float .f64 (ofKey (C)),.float .f64 (ofKey (D))]] w fun e w'=>e = .returned (.bool false)∧Below w.heap.size w w') (hBX : ∀ w,Calls Tryz.prog 64 #[.agg #[.float .f64 (ofKey (X)),.float .f64 (ofKey (Y))]] w fun e w'=>e = .returned (.bool r)∧Below w.heap.size w w') (w:World) :
  Calls Tryz.prog 66 #[.int .i64 o,.agg #[.float .f64 (ofKey (A)),.float .f64 (ofKey (Bh))],.agg #[.float .f64 (ofKey (C)),.float .f64 (ofKey (D))],.agg #[.float .f64 (ofKey (X)),.float .f64 (ofKey (Y))]] w fun e w'=>e = .returned (.int .i64 3)∧Below w.heap.size w w':=by
 have nA:=fun w=>refno_any A Bh rA rBh w
 rw [decide_eq_false (by omega : ¬Bh<A)] at nA
 have NA:=Lib.hid nA
 clear nA
 have nC:=fun w=>refno_any C D rC rD w
 rw [decide_eq_false (by omega : ¬D<C)] at nC
 have NC:=Lib.hid nC
 clear nC
 have BA:=Lib.hid hBA
 have BC:=Lib.hid hBC
 have BX:=Lib.hid hBX
 clear hBA hBC hBX
 rcases h with ⟨rfl,h⟩|⟨rfl,h⟩|⟨rfl,h,h5⟩|⟨rfl,h⟩|⟨rfl,h,h5⟩|⟨h3,h4,h5,h9⟩
 all_goals
  go_enter Tryz.func66,Tryz.ntmps66
  go_wp2_with fail
  refine (NA.out _).mono ?_;rintro e w1 ⟨rfl,hb⟩
  have H:=Hold.i222.below hb;clear hb;have F:=H.f;dsimp only [Fac] at F
  go_wp2_with fail
  refine (NC.out _).mono ?_;rintro e w2 ⟨rfl,hb⟩
  replace H:=H.below hb;clear hb;replace F:=H.f;dsimp only [Fac] at F
  go_wp2_with fail
  refine (BA.out _).mono ?_;rintro e w3 ⟨rfl,hb⟩
  replace H:=H.below hb;clear hb;replace F:=H.f;dsimp only [Fac] at F
  go_wp2_with fail
  refine (BC.out _).mono ?_;rintro e w4 ⟨rfl,hb⟩
  replace H:=H.below hb;clear hb;replace F:=H.f;dsimp only [Fac] at F
  go_wp2_with fail
  refine (BX.out _).mono ?_;rintro e w5 ⟨rfl,hb⟩
  replace H:=H.below hb;clear hb;replace F:=H.f;dsimp only [Fac] at F
  go_wp2_with fail
  go_ret
  exact ⟨rfl,H.B⟩
set_option maxRecDepth 4000 in
set_option maxHeartbeats 1000000 in
theorem loc_TTF (o:Int) (A Bh C D X Y:Int) (rA:Rg A) (rBh:Rg Bh) (rC:Rg C) (rD:Rg D) (rX:Rg X) (rY:Rg Y) (h1 : ¬Bh<A) (h2 : ¬D<C) (h:(o=3∧0≤A)∨(o=5∧0<A)∨(o=5∧A≤0∧Bh<0)∨(o=9∧0<C)∨(o=9∧C≤0∧D<0)∨(¬o=3 ∧ ¬o=4 ∧ ¬o=5 ∧ ¬o=9)) (hBA : ∀ w,Calls Tryz.prog 64 #[.agg #[.float .f64 (ofKey (A)),.float .f64 (ofKey (Bh))]] w fun e w'=>e = .returned (.bool true)∧Below w.heap.size w w') (hBC : ∀ w,Calls Tryz.prog 64 #[.agg #[.float .f64 (ofKey (C)),.float .f64 (ofKey (D))]] w fun e w'=>e = .returned (.bool true)∧Below w.heap.size w w') (hBX : ∀ w,Calls Tryz.prog 64 #[.agg #[.float .f64 (ofKey (X)),.float .f64 (ofKey (Y))]] w fun e w'=>e = .returned (.bool false)∧Below w.heap.size w w') (w:World) :
  Calls Tryz.prog 66 #[.int .i64 o,.agg #[.float .f64 (ofKey (A)),.float .f64 (ofKey (Bh))],.agg #[.float .f64 (ofKey (C)),.float .f64 (ofKey (D))],.agg #[.float .f64 (ofKey (X)),.float .f64 (ofKey (Y))]] w fun e w'=>e = .returned (.int .i64 3)∧Below w.heap.size w w':=by
 have nA:=fun w=>refno_any A Bh rA rBh w
 rw [decide_eq_false (by omega : ¬Bh<A)] at nA
 have NA:=Lib.hid nA
 clear nA
 have nC:=fun w=>refno_any C D rC rD w
 rw [decide_eq_false (by omega : ¬D<C)] at nC
 have NC:=Lib.hid nC
 clear nC
 have BA:=Lib.hid hBA
 have BC:=Lib.hid hBC
 have BX:=Lib.hid hBX
 clear hBA hBC hBX
 rcases h with ⟨rfl,h⟩|⟨rfl,h⟩|⟨rfl,h,h5⟩|⟨rfl,h⟩|⟨rfl,h,h5⟩|⟨h3,h4,h5,h9⟩
 all_goals
  go_enter Tryz.func66,Tryz.ntmps66
  go_wp2_with fail
  refine (NA.out _).mono ?_;rintro e w1 ⟨rfl,hb⟩
  have H:=Hold.i222.below hb;clear hb;have F:=H.f;dsimp only [Fac] at F
  go_wp2_with fail
  refine (NC.out _).mono ?_;rintro e w2 ⟨rfl,hb⟩
  replace H:=H.below hb;clear hb;replace F:=H.f;dsimp only [Fac] at F
  go_wp2_with fail
  refine (BA.out _).mono ?_;rintro e w3 ⟨rfl,hb⟩
  replace H:=H.below hb;clear hb;replace F:=H.f;dsimp only [Fac] at F
  go_wp2_with fail
  refine (BC.out _).mono ?_;rintro e w4 ⟨rfl,hb⟩
  replace H:=H.below hb;clear hb;replace F:=H.f;dsimp only [Fac] at F
  go_wp2_with fail
  refine (BX.out _).mono ?_;rintro e w5 ⟨rfl,hb⟩
  replace H:=H.below hb;clear hb;replace F:=H.f;dsimp only [Fac] at F
  go_wp2_with fail
  go_ret
  exact ⟨rfl,H.B⟩
set_option maxRecDepth 4000 in
set_option maxHeartbeats 1000000 in
theorem loc_TTT (o:Int) (A Bh C D X Y:Int) (rA:Rg A) (rBh:Rg Bh) (rC:Rg C) (rD:Rg D) (rX:Rg X) (rY:Rg Y) (h1 : ¬Bh<A) (h2 : ¬D<C) (h:(o=3∧0≤A)∨(o=5∧0<A)∨(o=5∧A≤0∧Bh<0)∨(o=9∧0<C)∨(o=9∧C≤0∧D<0)∨(¬o=3 ∧ ¬o=4 ∧ ¬o=5 ∧ ¬o=9)) (hBA : ∀ w,Calls Tryz.prog 64 #[.agg #[.float .f64 (ofKey (A)),.float .f64 (ofKey (Bh))]] w fun e w'=>e = .returned (.bool true)∧Below w.heap.size w w') (hBC : ∀ w,Calls Tryz.prog 64 #[.agg #[.float .f64 (ofKey (C)),.float .f64 (ofKey (D))]] w fun e w'=>e = .returned (.bool true)∧Below w.heap.size w w') (hBX : ∀ w,Calls Tryz.prog 64 #[.agg #[.float .f64 (ofKey (X)),.float .f64 (ofKey (Y))]] w fun e w'=>e = .returned (.bool true)∧Below w.heap.size w w') (w:World) :
  Calls Tryz.prog 66 #[.int .i64 o,.agg #[.float .f64 (ofKey (A)),.float .f64 (ofKey (Bh))],.agg #[.float .f64 (ofKey (C)),.float .f64 (ofKey (D))],.agg #[.float .f64 (ofKey (X)),.float .f64 (ofKey (Y))]] w fun e w'=>e = .returned (.int .i64 4)∧Below w.heap.size w w':=by
 have nA:=fun w=>refno_any A Bh rA rBh w
 rw [decide_eq_false (by omega : ¬Bh<A)] at nA
 have NA:=Lib.hid nA
 clear nA
 have nC:=fun w=>refno_any C D rC rD w
 rw [decide_eq_false (by omega : ¬D<C)] at nC
 have NC:=Lib.hid nC
 clear nC
 have BA:=Lib.hid hBA
 have BC:=Lib.hid hBC
 have BX:=Lib.hid hBX
 clear hBA hBC hBX
 rcases h with ⟨rfl,h⟩|⟨rfl,h⟩|⟨rfl,h,h5⟩|⟨rfl,h⟩|⟨rfl,h,h5⟩|⟨h3,h4,h5,h9⟩
 all_goals
  go_enter Tryz.func66,Tryz.ntmps66
  go_wp2_with fail
  refine (NA.out _).mono ?_;rintro e w1 ⟨rfl,hb⟩
  have H:=Hold.i222.below hb;clear hb;have F:=H.f;dsimp only [Fac] at F
  go_wp2_with fail
  refine (NC.out _).mono ?_;rintro e w2 ⟨rfl,hb⟩
  replace H:=H.below hb;clear hb;replace F:=H.f;dsimp only [Fac] at F
  go_wp2_with fail
  refine (BA.out _).mono ?_;rintro e w3 ⟨rfl,hb⟩
  replace H:=H.below hb;clear hb;replace F:=H.f;dsimp only [Fac] at F
  go_wp2_with fail
  refine (BC.out _).mono ?_;rintro e w4 ⟨rfl,hb⟩
  replace H:=H.below hb;clear hb;replace F:=H.f;dsimp only [Fac] at F
  go_wp2_with fail
  refine (BX.out _).mono ?_;rintro e w5 ⟨rfl,hb⟩
  replace H:=H.below hb;clear hb;replace F:=H.f;dsimp only [Fac] at F
  go_wp2_with fail
  go_ret
  exact ⟨rfl,H.B⟩
set_option maxRecDepth 4000 in
set_option maxHeartbeats 1000000 in
theorem loc_fu (A Bh C D X Y:Int) (rA:Rg A) (rBh:Rg Bh) (rC:Rg C) (rD:Rg D) (rX:Rg X) (rY:Rg Y) (v:Bool) (h1 : ¬Bh<A) (h2 : ¬D<C) (hw : ∀ w,Calls Tryz.prog 95 #[.float .f64 (ofKey (A))] w fun e w'=>e = .returned (.bool v)∧w=w') (hBA : ∀ w,Calls Tryz.prog 64 #[.agg #[.float .f64 (ofKey (A)),.float .f64 (ofKey (Bh))]] w fun e w'=>e = .returned (.bool false)∧Below w.heap.size w w') (w:World) :
  Calls Tryz.prog 66 #[.int .i64 4,.agg #[.float .f64 (ofKey (A)),.float .f64 (ofKey (Bh))],.agg #[.float .f64 (ofKey (C)),.float .f64 (ofKey (D))],.agg #[.float .f64 (ofKey (X)),.float .f64 (ofKey (Y))]] w fun e w'=>e = .returned (.int .i64 2)∧Below w.heap.size w w':=by
 have nA:=fun w=>refno_any A Bh rA rBh w
 rw [decide_eq_false (by omega : ¬Bh<A)] at nA
 have NA:=Lib.hid nA
 clear nA
 have nC:=fun w=>refno_any C D rC rD w
 rw [decide_eq_false (by omega : ¬D<C)] at nC
 have NC:=Lib.hid nC
 clear nC
 have BA:=Lib.hid hBA
 clear hBA
 have WH:=Lib.hid hw
 have FA:=Lib.hid (fun w=>floor_any A rA w)
 have FB:=Lib.hid (fun w=>floor_any Bh rBh w)
 have qa:=floorK_rg rA
 have qb:=floorK_rg rBh
 have nna:=nn_ofKey qa
 clear hw
 generalize floorK A=fa at *
 generalize floorK Bh=fb at *
 go_enter Tryz.func66,Tryz.ntmps66
 go_wp2_with fail
 refine (NA.out _).mono ?_;rintro e w1 ⟨rfl,hb⟩
 have H:=Hold.i222.below hb;clear hb;have F:=H.f;dsimp only [Fac] at F
 go_wp2_with fail
 refine (NC.out _).mono ?_;rintro e w2 ⟨rfl,hb⟩
 replace H:=H.below hb;clear hb;replace F:=H.f;dsimp only [Fac] at F
 go_wp2_with fail
 refine (WH.out _).mono ?_;rintro e w' ⟨rfl,rfl⟩
 go_wp2_with fail
 refine (BA.out _).mono ?_;rintro e w3 ⟨rfl,hb⟩
 replace H:=H.below hb;clear hb;replace F:=H.f;dsimp only [Fac] at F
 go_wp2_with fail
 have k:=H.r;dsimp only [Reg] at k
 refine wp_region_below (by kernel_rfl) (by kernel_rfl) ?_
 repeat (go_big_quiet_step ((go_at_call 89;first|(with_reducible exact quiet_same (FA.out _))|(with_reducible exact quiet_same (FB.out _)))))
 refine wpQuiet_nil (fun w6 hb => ?_);clear k
 replace H:=H.below hb;clear hb;replace F:=H.f;dsimp only [Fac] at F
 go_wp2_with fail
 go_ret
 exact ⟨rfl,H.B⟩
set_option maxRecDepth 4000 in
set_option maxHeartbeats 1000000 in
theorem loc_fn (A Bh C D X Y:Int) (rA:Rg A) (rBh:Rg Bh) (rC:Rg C) (rD:Rg D) (rX:Rg X) (rY:Rg Y) (v:Bool) (h1 : ¬Bh<A) (h2 : ¬D<C) (hw : ∀ w,Calls Tryz.prog 95 #[.float .f64 (ofKey (A))] w fun e w'=>e = .returned (.bool v)∧w=w') (hBA : ∀ w,Calls Tryz.prog 64 #[.agg #[.float .f64 (ofKey (A)),.float .f64 (ofKey (Bh))]] w fun e w'=>e = .returned (.bool true)∧Below w.heap.size w w') (hf : ¬floorK A=floorK Bh) (w:World) :
  Calls Tryz.prog 66 #[.int .i64 4,.agg #[.float .f64 (ofKey (A)),.float .f64 (ofKey (Bh))],.agg #[.float .f64 (ofKey (C)),.float .f64 (ofKey (D))],.agg #[.float .f64 (ofKey (X)),.float .f64 (ofKey (Y))]] w fun e w'=>e = .returned (.int .i64 2)∧Below w.heap.size w w':=by
 have nA:=fun w=>refno_any A Bh rA rBh w
 rw [decide_eq_false (by omega : ¬Bh<A)] at nA
 have NA:=Lib.hid nA
 clear nA
 have nC:=fun w=>refno_any C D rC rD w
 rw [decide_eq_false (by omega : ¬D<C)] at nC
 have NC:=Lib.hid nC
 clear nC
 have BA:=Lib.hid hBA
 clear hBA
 have WH:=Lib.hid hw
 have FA:=Lib.hid (fun w=>floor_any A rA w)
 have FB:=Lib.hid (fun w=>floor_any Bh rBh w)
 have qa:=floorK_rg rA
 have qb:=floorK_rg rBh
 have nna:=nn_ofKey qa
 clear hw
 generalize floorK A=fa at *
 generalize floorK Bh=fb at *
 go_enter Tryz.func66,Tryz.ntmps66
 go_wp2_with fail
 refine (NA.out _).mono ?_;rintro e w1 ⟨rfl,hb⟩
 have H:=Hold.i222.below hb;clear hb;have F:=H.f;dsimp only [Fac] at F
 go_wp2_with fail
 refine (NC.out _).mono ?_;rintro e w2 ⟨rfl,hb⟩
 replace H:=H.below hb;clear hb;replace F:=H.f;dsimp only [Fac] at F
 go_wp2_with fail
 refine (WH.out _).mono ?_;rintro e w' ⟨rfl,rfl⟩
 go_wp2_with fail
 refine (BA.out _).mono ?_;rintro e w3 ⟨rfl,hb⟩
 replace H:=H.below hb;clear hb;replace F:=H.f;dsimp only [Fac] at F
 go_wp2_with fail
 have k:=H.r;dsimp only [Reg] at k
 refine wp_region_below (by kernel_rfl) (by kernel_rfl) ?_
 repeat (go_big_quiet_step ((go_at_call 89;first|(with_reducible exact quiet_same (FA.out _))|(with_reducible exact quiet_same (FB.out _)))))
 refine wpQuiet_nil (fun w6 hb => ?_);clear k
 replace H:=H.below hb;clear hb;replace F:=H.f;dsimp only [Fac] at F
 go_wp2_with fail
 go_ret
 exact ⟨rfl,H.B⟩
set_option maxRecDepth 4000 in
set_option maxHeartbeats 1000000 in
theorem loc_fa (A Bh C D X Y:Int) (rA:Rg A) (rBh:Rg Bh) (rC:Rg C) (rD:Rg D) (rX:Rg X) (rY:Rg Y) (h1 : ¬Bh<A) (h2 : ¬D<C) (hw : ∀ w,Calls Tryz.prog 95 #[.float .f64 (ofKey (A))] w fun e w'=>e = .returned (.bool true)∧w=w') (hBA : ∀ w,Calls Tryz.prog 64 #[.agg #[.float .f64 (ofKey (A)),.float .f64 (ofKey (Bh))]] w fun e w'=>e = .returned (.bool true)∧Below w.heap.size w w') (hf:floorK A=floorK Bh) (w:World) :
  Calls Tryz.prog 66 #[.int .i64 4,.agg #[.float .f64 (ofKey (A)),.float .f64 (ofKey (Bh))],.agg #[.float .f64 (ofKey (C)),.float .f64 (ofKey (D))],.agg #[.float .f64 (ofKey (X)),.float .f64 (ofKey (Y))]] w fun e w'=>e = .returned (.int .i64 3)∧Below w.heap.size w w':=by
 have nA:=fun w=>refno_any A Bh rA rBh w
 rw [decide_eq_false (by omega : ¬Bh<A)] at nA
 have NA:=Lib.hid nA
 clear nA
 have nC:=fun w=>refno_any C D rC rD w
 rw [decide_eq_false (by omega : ¬D<C)] at nC
 have NC:=Lib.hid nC
 clear nC
 have BA:=Lib.hid hBA
 clear hBA
 have WH:=Lib.hid hw
 have FA:=Lib.hid (fun w=>floor_any A rA w)
 have FB:=Lib.hid (fun w=>floor_any Bh rBh w)
 have qa:=floorK_rg rA
 have qb:=floorK_rg rBh
 have nna:=nn_ofKey qa
 clear hw
 generalize floorK A=fa at *
 generalize floorK Bh=fb at *
 subst hf
 go_enter Tryz.func66,Tryz.ntmps66
 go_wp2_with fail
 refine (NA.out _).mono ?_;rintro e w1 ⟨rfl,hb⟩
 have H:=Hold.i222.below hb;clear hb;have F:=H.f;dsimp only [Fac] at F
 go_wp2_with fail
 refine (NC.out _).mono ?_;rintro e w2 ⟨rfl,hb⟩
 replace H:=H.below hb;clear hb;replace F:=H.f;dsimp only [Fac] at F
 go_wp2_with fail
 refine (WH.out _).mono ?_;rintro e w' ⟨rfl,rfl⟩
 go_wp2_with fail
 refine (BA.out _).mono ?_;rintro e w3 ⟨rfl,hb⟩
 replace H:=H.below hb;clear hb;replace F:=H.f;dsimp only [Fac] at F
 go_wp2_with fail
 have k:=H.r;dsimp only [Reg] at k
 refine wp_region_below (by kernel_rfl) (by kernel_rfl) ?_
 repeat (go_big_quiet_step ((go_at_call 89;first|(with_reducible exact quiet_same (FA.out _))|(with_reducible exact quiet_same (FB.out _)))))
 refine wpQuiet_nil (fun w6 hb => ?_);clear k
 replace H:=H.below hb;clear hb;replace F:=H.f;dsimp only [Fac] at F
 go_wp2_with fail
 go_ret
 exact ⟨rfl,H.B⟩
set_option maxRecDepth 4000 in
set_option maxHeartbeats 1000000 in
theorem loc_fTF (A Bh C D X Y:Int) (rA:Rg A) (rBh:Rg Bh) (rC:Rg C) (rD:Rg D) (rX:Rg X) (rY:Rg Y) (r:Bool) (h1 : ¬Bh<A) (h2 : ¬D<C) (hw : ∀ w,Calls Tryz.prog 95 #[.float .f64 (ofKey (A))] w fun e w'=>e = .returned (.bool false)∧w=w') (hf:floorK A=floorK Bh) (hBA : ∀ w,Calls Tryz.prog 64 #[.agg #[.float .f64 (ofKey (A)),.float .f64 (ofKey (Bh))]] w fun e w'=>e = .returned (.bool true)∧Below w.heap.size w w') (hBC : ∀ w,Calls Tryz.prog 64 #[.agg #[.float .f64 (ofKey (C)),.float .f64 (ofKey (D))]] w fun e w'=>e = .returned (.bool false)∧Below w.heap.size w w') (hBX : ∀ w,Calls Tryz.prog 64 #[.agg #[.float .f64 (ofKey (X)),.float .f64 (ofKey (Y))]] w fun e w'=>e = .returned (.bool r)∧Below w.heap.size w w') (w:World) :
  Calls Tryz.prog 66 #[.int .i64 4,.agg #[.float .f64 (ofKey (A)),.float .f64 (ofKey (Bh))],.agg #[.float .f64 (ofKey (C)),.float .f64 (ofKey (D))],.agg #[.float .f64 (ofKey (X)),.float .f64 (ofKey (Y))]] w fun e w'=>e = .returned (.int .i64 3)∧Below w.heap.size w w':=by
 have nA:=fun w=>refno_any A Bh rA rBh w
 rw [decide_eq_false (by omega : ¬Bh<A)] at nA
 have NA:=Lib.hid nA
 clear nA
 have nC:=fun w=>refno_any C D rC rD w
 rw [decide_eq_false (by omega : ¬D<C)] at nC
 have NC:=Lib.hid nC
 clear nC
 have BA:=Lib.hid hBA
 have BC:=Lib.hid hBC
 have BX:=Lib.hid hBX
 clear hBA hBC hBX
 have WH:=Lib.hid hw
 have FA:=Lib.hid (fun w=>floor_any A rA w)
 have FB:=Lib.hid (fun w=>floor_any Bh rBh w)
 have qa:=floorK_rg rA
 have qb:=floorK_rg rBh
 have nna:=nn_ofKey qa
 clear hw
 generalize floorK A=fa at *
 generalize floorK Bh=fb at *
 subst hf
 go_enter Tryz.func66,Tryz.ntmps66
 go_wp2_with fail
 refine (NA.out _).mono ?_;rintro e w1 ⟨rfl,hb⟩
 have H:=Hold.i222.below hb;clear hb;have F:=H.f;dsimp only [Fac] at F
 go_wp2_with fail
 refine (NC.out _).mono ?_;rintro e w2 ⟨rfl,hb⟩
 replace H:=H.below hb;clear hb;replace F:=H.f;dsimp only [Fac] at F
 go_wp2_with fail
 refine (WH.out _).mono ?_;rintro e w' ⟨rfl,rfl⟩
 go_wp2_with fail
 refine (BA.out _).mono ?_;rintro e w3 ⟨rfl,hb⟩
 replace H:=H.below hb;clear hb;replace F:=H.f;dsimp only [Fac] at F
 go_wp2_with fail
 have k:=H.r;dsimp only [Reg] at k
 refine wp_region_below (by kernel_rfl) (by kernel_rfl) ?_
 repeat (go_big_quiet_step ((go_at_call 89;first|(with_reducible exact quiet_same (FA.out _))|(with_reducible exact quiet_same (FB.out _)))))
 refine wpQuiet_nil (fun w6 hb => ?_);clear k
 replace H:=H.below hb;clear hb;replace F:=H.f;dsimp only [Fac] at F
 go_wp2_with fail
 refine (BA.out _).mono ?_;rintro e w7 ⟨rfl,hb⟩
 replace H:=H.below hb;clear hb;replace F:=H.f;dsimp only [Fac] at F
 go_wp2_with fail
 refine (BC.out _).mono ?_;rintro e w8 ⟨rfl,hb⟩
 replace H:=H.below hb;clear hb;replace F:=H.f;dsimp only [Fac] at F
 go_wp2_with fail
 refine (BX.out _).mono ?_;rintro e w9 ⟨rfl,hb⟩
 replace H:=H.below hb;clear hb;replace F:=H.f;dsimp only [Fac] at F
 go_wp2_with fail
 go_ret
 exact ⟨rfl,H.B⟩
set_option maxRecDepth 4000 in
set_option maxHeartbeats 1000000 in
theorem loc_fTTF (A Bh C D X Y:Int) (rA:Rg A) (rBh:Rg Bh) (rC:Rg C) (rD:Rg D) (rX:Rg X) (rY:Rg Y) (h1 : ¬Bh<A) (h2 : ¬D<C) (hw : ∀ w,Calls Tryz.prog 95 #[.float .f64 (ofKey (A))] w fun e w'=>e = .returned (.bool false)∧w=w') (hf:floorK A=floorK Bh) (hBA : ∀ w,Calls Tryz.prog 64 #[.agg #[.float .f64 (ofKey (A)),.float .f64 (ofKey (Bh))]] w fun e w'=>e = .returned (.bool true)∧Below w.heap.size w w') (hBC : ∀ w,Calls Tryz.prog 64 #[.agg #[.float .f64 (ofKey (C)),.float .f64 (ofKey (D))]] w fun e w'=>e = .returned (.bool true)∧Below w.heap.size w w') (hBX : ∀ w,Calls Tryz.prog 64 #[.agg #[.float .f64 (ofKey (X)),.float .f64 (ofKey (Y))]] w fun e w'=>e = .returned (.bool false)∧Below w.heap.size w w') (w:World) :
  Calls Tryz.prog 66 #[.int .i64 4,.agg #[.float .f64 (ofKey (A)),.float .f64 (ofKey (Bh))],.agg #[.float .f64 (ofKey (C)),.float .f64 (ofKey (D))],.agg #[.float .f64 (ofKey (X)),.float .f64 (ofKey (Y))]] w fun e w'=>e = .returned (.int .i64 3)∧Below w.heap.size w w':=by
 have nA:=fun w=>refno_any A Bh rA rBh w
 rw [decide_eq_false (by omega : ¬Bh<A)] at nA
 have NA:=Lib.hid nA
 clear nA
 have nC:=fun w=>refno_any C D rC rD w
 rw [decide_eq_false (by omega : ¬D<C)] at nC
 have NC:=Lib.hid nC
 clear nC
 have BA:=Lib.hid hBA
 have BC:=Lib.hid hBC
 have BX:=Lib.hid hBX
 clear hBA hBC hBX
 have WH:=Lib.hid hw
 have FA:=Lib.hid (fun w=>floor_any A rA w)
 have FB:=Lib.hid (fun w=>floor_any Bh rBh w)
 have qa:=floorK_rg rA
 have qb:=floorK_rg rBh
 have nna:=nn_ofKey qa
 clear hw
 generalize floorK A=fa at *
 generalize floorK Bh=fb at *
 subst hf
 go_enter Tryz.func66,Tryz.ntmps66
 go_wp2_with fail
 refine (NA.out _).mono ?_;rintro e w1 ⟨rfl,hb⟩
 have H:=Hold.i222.below hb;clear hb;have F:=H.f;dsimp only [Fac] at F
 go_wp2_with fail
 refine (NC.out _).mono ?_;rintro e w2 ⟨rfl,hb⟩
 replace H:=H.below hb;clear hb;replace F:=H.f;dsimp only [Fac] at F
 go_wp2_with fail
 refine (WH.out _).mono ?_;rintro e w' ⟨rfl,rfl⟩
 go_wp2_with fail
 refine (BA.out _).mono ?_;rintro e w3 ⟨rfl,hb⟩
 replace H:=H.below hb;clear hb;replace F:=H.f;dsimp only [Fac] at F
 go_wp2_with fail
 have k:=H.r;dsimp only [Reg] at k
 refine wp_region_below (by kernel_rfl) (by kernel_rfl) ?_
 repeat (go_big_quiet_step ((go_at_call 89;first|(with_reducible exact quiet_same (FA.out _))|(with_reducible exact quiet_same (FB.out _)))))
 refine wpQuiet_nil (fun w6 hb => ?_);clear k
 replace H:=H.below hb;clear hb;replace F:=H.f;dsimp only [Fac] at F
 go_wp2_with fail
 refine (BA.out _).mono ?_;rintro e w7 ⟨rfl,hb⟩
 replace H:=H.below hb;clear hb;replace F:=H.f;dsimp only [Fac] at F
 go_wp2_with fail
 refine (BC.out _).mono ?_;rintro e w8 ⟨rfl,hb⟩
 replace H:=H.below hb;clear hb;replace F:=H.f;dsimp only [Fac] at F
 go_wp2_with fail
 refine (BX.out _).mono ?_;rintro e w9 ⟨rfl,hb⟩
 replace H:=H.below hb;clear hb;replace F:=H.f;dsimp only [Fac] at F
 go_wp2_with fail
 go_ret
 exact ⟨rfl,H.B⟩
set_option maxRecDepth 4000 in
set_option maxHeartbeats 1000000 in
theorem loc_fTTT (A Bh C D X Y:Int) (rA:Rg A) (rBh:Rg Bh) (rC:Rg C) (rD:Rg D) (rX:Rg X) (rY:Rg Y) (h1 : ¬Bh<A) (h2 : ¬D<C) (hw : ∀ w,Calls Tryz.prog 95 #[.float .f64 (ofKey (A))] w fun e w'=>e = .returned (.bool false)∧w=w') (hf:floorK A=floorK Bh) (hBA : ∀ w,Calls Tryz.prog 64 #[.agg #[.float .f64 (ofKey (A)),.float .f64 (ofKey (Bh))]] w fun e w'=>e = .returned (.bool true)∧Below w.heap.size w w') (hBC : ∀ w,Calls Tryz.prog 64 #[.agg #[.float .f64 (ofKey (C)),.float .f64 (ofKey (D))]] w fun e w'=>e = .returned (.bool true)∧Below w.heap.size w w') (hBX : ∀ w,Calls Tryz.prog 64 #[.agg #[.float .f64 (ofKey (X)),.float .f64 (ofKey (Y))]] w fun e w'=>e = .returned (.bool true)∧Below w.heap.size w w') (w:World) :
  Calls Tryz.prog 66 #[.int .i64 4,.agg #[.float .f64 (ofKey (A)),.float .f64 (ofKey (Bh))],.agg #[.float .f64 (ofKey (C)),.float .f64 (ofKey (D))],.agg #[.float .f64 (ofKey (X)),.float .f64 (ofKey (Y))]] w fun e w'=>e = .returned (.int .i64 4)∧Below w.heap.size w w':=by
 have nA:=fun w=>refno_any A Bh rA rBh w
 rw [decide_eq_false (by omega : ¬Bh<A)] at nA
 have NA:=Lib.hid nA
 clear nA
 have nC:=fun w=>refno_any C D rC rD w
 rw [decide_eq_false (by omega : ¬D<C)] at nC
 have NC:=Lib.hid nC
 clear nC
 have BA:=Lib.hid hBA
 have BC:=Lib.hid hBC
 have BX:=Lib.hid hBX
 clear hBA hBC hBX
 have WH:=Lib.hid hw
 have FA:=Lib.hid (fun w=>floor_any A rA w)
 have FB:=Lib.hid (fun w=>floor_any Bh rBh w)
 have qa:=floorK_rg rA
 have qb:=floorK_rg rBh
 have nna:=nn_ofKey qa
 clear hw
 generalize floorK A=fa at *
 generalize floorK Bh=fb at *
 subst hf
 go_enter Tryz.func66,Tryz.ntmps66
 go_wp2_with fail
 refine (NA.out _).mono ?_;rintro e w1 ⟨rfl,hb⟩
 have H:=Hold.i222.below hb;clear hb;have F:=H.f;dsimp only [Fac] at F
 go_wp2_with fail
 refine (NC.out _).mono ?_;rintro e w2 ⟨rfl,hb⟩
 replace H:=H.below hb;clear hb;replace F:=H.f;dsimp only [Fac] at F
 go_wp2_with fail
 refine (WH.out _).mono ?_;rintro e w' ⟨rfl,rfl⟩
 go_wp2_with fail
 refine (BA.out _).mono ?_;rintro e w3 ⟨rfl,hb⟩
 replace H:=H.below hb;clear hb;replace F:=H.f;dsimp only [Fac] at F
 go_wp2_with fail
 have k:=H.r;dsimp only [Reg] at k
 refine wp_region_below (by kernel_rfl) (by kernel_rfl) ?_
 repeat (go_big_quiet_step ((go_at_call 89;first|(with_reducible exact quiet_same (FA.out _))|(with_reducible exact quiet_same (FB.out _)))))
 refine wpQuiet_nil (fun w6 hb => ?_);clear k
 replace H:=H.below hb;clear hb;replace F:=H.f;dsimp only [Fac] at F
 go_wp2_with fail
 refine (BA.out _).mono ?_;rintro e w7 ⟨rfl,hb⟩
 replace H:=H.below hb;clear hb;replace F:=H.f;dsimp only [Fac] at F
 go_wp2_with fail
 refine (BC.out _).mono ?_;rintro e w8 ⟨rfl,hb⟩
 replace H:=H.below hb;clear hb;replace F:=H.f;dsimp only [Fac] at F
 go_wp2_with fail
 refine (BX.out _).mono ?_;rintro e w9 ⟨rfl,hb⟩
 replace H:=H.below hb;clear hb;replace F:=H.f;dsimp only [Fac] at F
 go_wp2_with fail
 go_ret
 exact ⟨rfl,H.B⟩
theorem reflocal_any (o A B C D X Y:Int) (rA:Rg A) (rB:Rg B) (rC:Rg C) (rD:Rg D) (rX:Rg X) (rY:Rg Y) (w:World) :
  Calls Tryz.prog 66 #[.int .i64 o,.agg #[.float .f64 (ofKey (A)),.float .f64 (ofKey (B))],.agg #[.float .f64 (ofKey (C)),.float .f64 (ofKey (D))],.agg #[.float .f64 (ofKey (X)),.float .f64 (ofKey (Y))]] w fun e w'=>e = .returned (.int .i64 (rlocK o A B C D X Y))∧Below w.heap.size w w':=by
 unfold rlocK
 by_cases h1:B<A
 ·rw [if_pos (.inl h1)]
  by_cases h2:D<C
  ·exact loc_e1 o A B C D X Y rA rB rC rD rX rY h1 h2 w
  ·exact loc_e0 o A B C D X Y rA rB rC rD rX rY h1 h2 w
 by_cases h2:D<C
 ·rw [if_pos (.inr (.inl h2))]
  exact loc_e2 o A B C D X Y rA rB rC rD rX rY h1 h2 w
 by_cases h:(o=3∧A<0)∨(o=5∧A≤0∧0≤B)∨(o=9∧C≤0∧0≤D)
 ·rw [if_pos (.inr (.inr h))]
  exact loc_t o A B C D X Y rA rB rC rD rX rY h1 h2 h w
 rw [if_neg (fun g=>g.elim h1 fun g=>g.elim h2 h)]
 by_cases h4:o=4
 ·subst h4
  by_cases hA:Bnd A B
  ·have BA:=refbnd_yes rA rB hA
   by_cases hf:floorK A=floorK B
   ·rw [if_neg (fun g=>g.2 ⟨hA,hf⟩)]
    by_cases hw:floorK A=A
    ·have W:=fun w=>refwhole_k A rA w
     rw [decide_eq_true hw] at W
     rw [if_pos ⟨rfl,hw⟩]
     exact loc_fa A B C D X Y rA rB rC rD rX rY h1 h2 W BA hf w
    ·have W:=fun w=>refwhole_k A rA w
     rw [decide_eq_false hw] at W
     rw [if_neg (fun g=>hw g.2)]
     by_cases hC:Bnd C D
     ·by_cases hX:Bnd X Y
      ·rw [if_pos ⟨hA,hC,hX⟩];exact loc_fTTT A B C D X Y rA rB rC rD rX rY h1 h2 W hf BA (refbnd_yes rC rD hC) (refbnd_yes rX rY hX) w
      ·rw [if_neg (fun g=>hX g.2.2)];exact loc_fTTF A B C D X Y rA rB rC rD rX rY h1 h2 W hf BA (refbnd_yes rC rD hC) (refbnd_no rX rY hX) w
     ·rw [if_neg (fun g=>hC g.2.1)]
      by_cases hX:Bnd X Y
      ·exact loc_fTF A B C D X Y rA rB rC rD rX rY true h1 h2 W hf BA (refbnd_no rC rD hC) (refbnd_yes rX rY hX) w
      ·exact loc_fTF A B C D X Y rA rB rC rD rX rY false h1 h2 W hf BA (refbnd_no rC rD hC) (refbnd_no rX rY hX) w
   ·rw [if_pos ⟨rfl,fun g=>hf g.2⟩]
    exact loc_fn A B C D X Y rA rB rC rD rX rY _ h1 h2 (fun w=>refwhole_k A rA w) BA hf w
  ·rw [if_pos ⟨rfl,fun g=>hA g.1⟩]
   exact loc_fu A B C D X Y rA rB rC rD rX rY _ h1 h2 (fun w=>refwhole_k A rA w) (refbnd_no rA rB hA) w
 rw [if_neg (fun g=>h4 g.1),if_neg (fun g=>h4 g.1)]
 have hc:(o=3∧0≤A)∨(o=5∧0<A)∨(o=5∧A≤0∧B<0)∨(o=9∧0<C)∨(o=9∧C≤0∧D<0)∨(¬o=3 ∧ ¬o=4 ∧ ¬o=5 ∧ ¬o=9):=by omega
 clear h
 by_cases hA:Bnd A B
 ·have BA:=refbnd_yes rA rB hA
  by_cases hC:Bnd C D
  ·by_cases hX:Bnd X Y
   ·rw [if_pos ⟨hA,hC,hX⟩];exact loc_TTT o A B C D X Y rA rB rC rD rX rY h1 h2 hc BA (refbnd_yes rC rD hC) (refbnd_yes rX rY hX) w
   ·rw [if_neg (fun g=>hX g.2.2)];exact loc_TTF o A B C D X Y rA rB rC rD rX rY h1 h2 hc BA (refbnd_yes rC rD hC) (refbnd_no rX rY hX) w
  ·rw [if_neg (fun g=>hC g.2.1)]
   by_cases hX:Bnd X Y
   ·exact loc_TF o A B C D X Y rA rB rC rD rX rY true h1 h2 hc BA (refbnd_no rC rD hC) (refbnd_yes rX rY hX) w
   ·exact loc_TF o A B C D X Y rA rB rC rD rX rY false h1 h2 hc BA (refbnd_no rC rD hC) (refbnd_no rX rY hX) w
 ·rw [if_neg (fun g=>hA g.1)]
  have q : ∃ q,∀ w,Calls Tryz.prog 64 #[.agg #[.float .f64 (ofKey (C)),.float .f64 (ofKey (D))]] w fun e w'=>e = .returned (.bool q)∧Below w.heap.size w w':=by
   by_cases hC:Bnd C D
   ·exact ⟨_,refbnd_yes rC rD hC⟩
   ·exact ⟨_,refbnd_no rC rD hC⟩
  have r : ∃ q,∀ w,Calls Tryz.prog 64 #[.agg #[.float .f64 (ofKey (X)),.float .f64 (ofKey (Y))]] w fun e w'=>e = .returned (.bool q)∧Below w.heap.size w w':=by
   by_cases hC:Bnd X Y
   ·exact ⟨_,refbnd_yes rX rY hC⟩
   ·exact ⟨_,refbnd_no rX rY hC⟩
  obtain ⟨q,hq⟩:=q
  obtain ⟨r,hr⟩:=r
  exact loc_F o A B C D X Y rA rB rC rD rX rY q r h1 h2 hc (refbnd_no rA rB hA) hq hr w
end Go.Proofs.YteephgpefhodnaaGreat
