/- Package deco: what is said of an interval. -/
import Derived.Test.YteephgpefhodnaaGreatKA
namespace Go.Proofs.YteephgpefhodnaaGreat
open Go.RowKit Go.Sort Go.Fl
set_option linter.unusedSimpArgs false
set_option linter.unusedVariables false
def Bnd (a b:Int):Prop := -PI<a∧a<PI ∧ -PI<b∧b<PI
instance (a b:Int):Decidable (Bnd a b):=by unfold Bnd;infer_instance
theorem ivlno_raw (a b:Nat) (ha : ¬nan a) (hb : ¬nan b) (w:World) :
  Calls Tryz.prog 50 #[.agg #[.float .f64 (a),.float .f64 (b)]] w fun e w'=>e = .returned (.bool (decide (key a=PI∧key b = -PI)))∧Below w.heap.size w w':=by
 have he:=eqiv
 have k0:=cell_regrown (w:=(World.alloc w (.cells #[.float .f64 (a),.float .f64 (b)] 39))) (a:=⟨w.heap.size,0,none⟩) (v := .float .f64 a) (by simp [go_sem])
 have k1:=cell_regrown (w:=(World.alloc w (.cells #[.float .f64 (a),.float .f64 (b)] 39))) (a:=⟨w.heap.size,1,none⟩) (v := .float .f64 b) (by simp [go_sem])
 go_enter Tryz.func50,Tryz.ntmps50
 go_wp2
 all_goals refine wp_region_below (by kernel_rfl) (by kernel_rfl) ?_
 repeat (any_goals (first|go_big_quiet_step ((go_at_call 70;exact Calls.regrown_of (ivlempty_any _)))|quiet_step ((go_at_call 70;exact Calls.regrown_of (ivlempty_any _)))|(refine wpQuiet_step (fun K hK => ?_);go_simp;split<;>(refine hK _ ?_;clear hK K))))
 all_goals (refine wpQuiet_nil (fun w2 hbw2 => ?_))
 go_wp2
 go_ret
 exact ⟨ret_b (by rw [Bool.decide_and]),below_alloc hbw2⟩
theorem bounded_raw (a b:Nat) (wa:Wd a) (wb:Wd b) (ha : ¬nan a) (hb : ¬nan b) (w:World) :
  Calls Tryz.prog 92 #[.agg #[.float .f64 (a),.float .f64 (b)]] w fun e w'=>e = .returned (.bool (decide (Bnd (key a) (key b))))∧Below w.heap.size w w':=by
 have hP:PI=(INF:Int):=rfl
 have ka:=fin_key (x:=a)
 have kb:=fin_key (x:=b)
 by_cases h1:fin a
 ·have FA:=Lib.hid (finite_yes _ wa h1)
  by_cases h2:fin b
  ·have FB:=Lib.hid (finite_yes _ wb h2)
   rw [show decide (Bnd (key a) (key b))=true from decide_eq_true (by have:=ka.1 h1;have:=kb.1 h2;unfold Bnd;omega)]
   clear ka kb h1 h2
   go_enter Tryz.func92,Tryz.ntmps92
   go_wp2_with (go_at_call 75;(first|(with_reducible refine (FA.out _).mono ?_)|(with_reducible refine (FB.out _).mono ?_));rintro e w' ⟨rfl,rfl⟩)
   go_ret
   exact ⟨rfl,by go_grown⟩
  ·have FB:=Lib.hid (finite_no _ wb h2)
   rw [show decide (Bnd (key a) (key b))=false from decide_eq_false (fun h=>h2 (kb.2 (by unfold Bnd at h;omega)))]
   clear ka kb h1 h2
   go_enter Tryz.func92,Tryz.ntmps92
   go_wp2_with (go_at_call 75;(first|(with_reducible refine (FA.out _).mono ?_)|(with_reducible refine (FB.out _).mono ?_));rintro e w' ⟨rfl,rfl⟩)
   go_ret
   exact ⟨rfl,by go_grown⟩
 ·have FA:=Lib.hid (finite_no _ wa h1)
  rw [show decide (Bnd (key a) (key b))=false from decide_eq_false (fun h=>h1 (ka.2 (by unfold Bnd at h;omega)))]
  clear ka kb h1
  go_enter Tryz.func92,Tryz.ntmps92
  go_wp2_with (go_at_call 75;refine (FA.out _).mono ?_;rintro e w' ⟨rfl,rfl⟩)
  go_ret
  exact ⟨rfl,by go_grown⟩
theorem decoill_any (w:World) :
  Calls Tryz.prog 91 #[] w fun e w'=>e = .returned (.agg #[.float .f64 (ofKey (PI)),.float .f64 (ofKey (-PI)),.int .i64 (0)])∧Below w.heap.size w w':=by
 go_enter Tryz.func91,Tryz.ntmps91
 go_wp2_with fail
 refine (ivlempty_any _).mono ?_;rintro e w1 ⟨rfl,hb⟩
 have H:=Hold.i3.below hb;clear hb;have F:=H.f;dsimp only [Fac] at F
 go_wp2_with fail
 refine (((H.set 0 _).set 1 _).set 2 _).gob ?_;clear H F;intro wz H;dsimp only [upd] at H;have F:=H.f;dsimp only [Fac] at F
 refine bodyPost_ret (by simp [results,Tryz.results91,go_sem,F]) rfl ⟨rfl,?_⟩;exact H.B
def dIll (a b:Nat) (d:Int):Prop:=d≤0∨4<d∨good a b=false
instance (a b:Nat) (d:Int):Decidable (dIll a b d):=by unfold dIll;infer_instance
def dLo (a b:Nat) (d:Int):Int:=if dIll a b d then PI else tkLo a b
def dHi (a b:Nat) (d:Int):Int:=if dIll a b d then -PI else tkHi a b
def dD (a b:Nat) (d:Int):Int:=if dIll a b d then 0 else if tkLo a b=PI∧tkHi a b = -PI then 1 else if Bnd (tkLo a b) (tkHi a b) then d else min d 3
theorem dc_iv (a b:Nat) (d:Int):Iv (dLo a b d) (dHi a b d):=by
 unfold dLo dHi
 split
 ·exact ⟨Rg_PI,Rg_MI,.inl ⟨rfl,rfl⟩⟩
 ·exact tk_iv a b
theorem of_ill1 (a b:Nat) (d:Int) (wa:Wd a) (wb:Wd b) (h:d≤0) (w:World) :
  Calls Tryz.prog 63 #[.agg #[.float .f64 (a),.float .f64 (b)],.int .i64 d] w fun e w'=>e = .returned (.agg #[.float .f64 (ofKey (PI)),.float .f64 (ofKey (-PI)),.int .i64 (0)])∧Below w.heap.size w w':=by
 go_enter Tryz.func63,Tryz.ntmps63
 go_wp2_with fail
 refine (decoill_any _).mono ?_;rintro e w1 ⟨rfl,hb⟩
 have H:=Hold.i23.below hb;clear hb;have F:=H.f;dsimp only [Fac] at F
 go_wp2_with fail
 refine (((H.set 2 _).set 3 _).set 4 _).gob ?_;clear H F;intro wz H;dsimp only [upd] at H;have F:=H.f;dsimp only [Fac] at F
 refine bodyPost_ret (by simp [results,Tryz.results63,go_sem,F]) rfl ⟨rfl,?_⟩;exact H.B
theorem of_ill2 (a b:Nat) (d:Int) (wa:Wd a) (wb:Wd b) (h0 : ¬d≤0) (h:4<d) (w:World) :
  Calls Tryz.prog 63 #[.agg #[.float .f64 (a),.float .f64 (b)],.int .i64 d] w fun e w'=>e = .returned (.agg #[.float .f64 (ofKey (PI)),.float .f64 (ofKey (-PI)),.int .i64 (0)])∧Below w.heap.size w w':=by
 go_enter Tryz.func63,Tryz.ntmps63
 go_wp2_with fail
 refine (decoill_any _).mono ?_;rintro e w1 ⟨rfl,hb⟩
 have H:=Hold.i23.below hb;clear hb;have F:=H.f;dsimp only [Fac] at F
 go_wp2_with fail
 refine (((H.set 2 _).set 3 _).set 4 _).gob ?_;clear H F;intro wz H;dsimp only [upd] at H;have F:=H.f;dsimp only [Fac] at F
 refine bodyPost_ret (by simp [results,Tryz.results63,go_sem,F]) rfl ⟨rfl,?_⟩;exact H.B
theorem of_ill3 (a b:Nat) (d:Int) (wa:Wd a) (wb:Wd b) (h0 : ¬d≤0) (h : ¬4<d) (hg:good a b=false) (w:World) :
  Calls Tryz.prog 63 #[.agg #[.float .f64 (a),.float .f64 (b)],.int .i64 d] w fun e w'=>e = .returned (.agg #[.float .f64 (ofKey (PI)),.float .f64 (ofKey (-PI)),.int .i64 (0)])∧Below w.heap.size w w':=by
 have hG:=fun w=>ivlgood_any a b w
 rw [hg] at hG
 have GD:=Lib.hid hG
 clear hG hg
 go_enter Tryz.func63,Tryz.ntmps63
 go_wp2_with fail
 refine (GD.out _).mono ?_;rintro e w1 ⟨rfl,hb⟩
 have H:=Hold.i23.below hb;clear hb;have F:=H.f;dsimp only [Fac] at F
 go_wp2_with fail
 refine (decoill_any _).mono ?_;rintro e w2 ⟨rfl,hb⟩
 replace H:=H.below hb;clear hb;replace F:=H.f;dsimp only [Fac] at F
 go_wp2_with fail
 refine (((H.set 2 _).set 3 _).set 4 _).gob ?_;clear H F;intro wz H;dsimp only [upd] at H;have F:=H.f;dsimp only [Fac] at F
 refine bodyPost_ret (by simp [results,Tryz.results63,go_sem,F]) rfl ⟨rfl,?_⟩;exact H.B
theorem of_empty (a b:Nat) (d:Int) (wa:Wd a) (wb:Wd b) (h0 : ¬d≤0) (h : ¬4<d) (hg:good a b=true) (na : ¬nan a) (nb : ¬nan b) (he:key a=PI∧key b = -PI) (w:World) :
  Calls Tryz.prog 63 #[.agg #[.float .f64 (a),.float .f64 (b)],.int .i64 d] w fun e w'=>e = .returned (.agg #[.float .f64 (ofKey (tkLo a b)),.float .f64 (ofKey (tkHi a b)),.int .i64 (1)])∧Below w.heap.size w w':=by
 have hG:=fun w=>ivlgood_any a b w
 rw [hg] at hG
 have GD:=Lib.hid hG
 have TK:=Lib.hid (fun w=>ivltake_any a b wa wb w)
 have hN:=fun w=>ivlno_raw a b na nb w
 rw [decide_eq_true he] at hN
 have NO:=Lib.hid hN
 clear hG hg hN
 clear he
 have qA:=(tk_iv a b).1
 have qB:=(tk_iv a b).2.1
 generalize tkLo a b=A at *
 generalize tkHi a b=Bh at *
 go_enter Tryz.func63,Tryz.ntmps63
 go_wp2_with fail
 refine (GD.out _).mono ?_;rintro e w1 ⟨rfl,hb⟩
 have H:=Hold.i23.below hb;clear hb;have F:=H.f;dsimp only [Fac] at F
 go_wp2_with fail
 refine (NO.out _).mono ?_;rintro e w2 ⟨rfl,hb⟩
 replace H:=H.below hb;clear hb;replace F:=H.f;dsimp only [Fac] at F
 go_wp2_with fail
 refine (TK.out _).mono ?_;rintro e w3 ⟨rfl,hb⟩
 replace H:=H.below hb;clear hb;replace F:=H.f;dsimp only [Fac] at F
 go_wp2_with fail
 refine (((H.set 2 _).set 3 _).set 4 _).gob ?_;clear H F;intro wz H;dsimp only [upd] at H;have F:=H.f;dsimp only [Fac] at F
 refine bodyPost_ret (by simp [results,Tryz.results63,go_sem,F]) rfl ⟨rfl,?_⟩;exact H.B
theorem of_bnd (a b:Nat) (d:Int) (wa:Wd a) (wb:Wd b) (h0 : ¬d≤0) (h : ¬4<d) (hg:good a b=true) (na : ¬nan a) (nb : ¬nan b) (he : ¬(key a=PI∧key b = -PI)) (hb:Bnd (key a) (key b)) (w:World) :
  Calls Tryz.prog 63 #[.agg #[.float .f64 (a),.float .f64 (b)],.int .i64 d] w fun e w'=>e = .returned (.agg #[.float .f64 (ofKey (tkLo a b)),.float .f64 (ofKey (tkHi a b)),.int .i64 (d)])∧Below w.heap.size w w':=by
 have hG:=fun w=>ivlgood_any a b w
 rw [hg] at hG
 have GD:=Lib.hid hG
 have TK:=Lib.hid (fun w=>ivltake_any a b wa wb w)
 have hN:=fun w=>ivlno_raw a b na nb w
 rw [decide_eq_false he] at hN
 have NO:=Lib.hid hN
 clear hG hg hN
 have hB:=fun w=>bounded_raw a b wa wb na nb w
 rw [decide_eq_true hb] at hB
 have BD:=Lib.hid hB
 clear he hB hb
 have qA:=(tk_iv a b).1
 have qB:=(tk_iv a b).2.1
 generalize tkLo a b=A at *
 generalize tkHi a b=Bh at *
 go_enter Tryz.func63,Tryz.ntmps63
 go_wp2_with fail
 refine (GD.out _).mono ?_;rintro e w1 ⟨rfl,hb⟩
 have H:=Hold.i23.below hb;clear hb;have F:=H.f;dsimp only [Fac] at F
 go_wp2_with fail
 refine (NO.out _).mono ?_;rintro e w2 ⟨rfl,hb⟩
 replace H:=H.below hb;clear hb;replace F:=H.f;dsimp only [Fac] at F
 go_wp2_with fail
 refine (BD.out _).mono ?_;rintro e w3 ⟨rfl,hb⟩
 replace H:=H.below hb;clear hb;replace F:=H.f;dsimp only [Fac] at F
 go_wp2_with fail
 refine (TK.out _).mono ?_;rintro e w4 ⟨rfl,hb⟩
 replace H:=H.below hb;clear hb;replace F:=H.f;dsimp only [Fac] at F
 go_wp2_with fail
 refine (((H.set 2 _).set 3 _).set 4 _).gob ?_;clear H F;intro wz H;dsimp only [upd] at H;have F:=H.f;dsimp only [Fac] at F
 refine bodyPost_ret (by simp [results,Tryz.results63,go_sem,F]) rfl ⟨rfl,?_⟩;exact H.B
theorem of_unb (a b:Nat) (d:Int) (wa:Wd a) (wb:Wd b) (h0 : ¬d≤0) (h : ¬4<d) (hg:good a b=true) (na : ¬nan a) (nb : ¬nan b) (he : ¬(key a=PI∧key b = -PI)) (hb : ¬Bnd (key a) (key b)) (w:World) :
  Calls Tryz.prog 63 #[.agg #[.float .f64 (a),.float .f64 (b)],.int .i64 d] w fun e w'=>e = .returned (.agg #[.float .f64 (ofKey (tkLo a b)),.float .f64 (ofKey (tkHi a b)),.int .i64 (min d 3)])∧Below w.heap.size w w':=by
 have hG:=fun w=>ivlgood_any a b w
 rw [hg] at hG
 have GD:=Lib.hid hG
 have TK:=Lib.hid (fun w=>ivltake_any a b wa wb w)
 have hN:=fun w=>ivlno_raw a b na nb w
 rw [decide_eq_false he] at hN
 have NO:=Lib.hid hN
 clear hG hg hN
 have hB:=fun w=>bounded_raw a b wa wb na nb w
 rw [decide_eq_false hb] at hB
 have BD:=Lib.hid hB
 clear he hB hb
 have qA:=(tk_iv a b).1
 have qB:=(tk_iv a b).2.1
 generalize tkLo a b=A at *
 generalize tkHi a b=Bh at *
 go_enter Tryz.func63,Tryz.ntmps63
 go_wp2_with fail
 refine (GD.out _).mono ?_;rintro e w1 ⟨rfl,hb⟩
 have H:=Hold.i23.below hb;clear hb;have F:=H.f;dsimp only [Fac] at F
 go_wp2_with fail
 refine (NO.out _).mono ?_;rintro e w2 ⟨rfl,hb⟩
 replace H:=H.below hb;clear hb;replace F:=H.f;dsimp only [Fac] at F
 go_wp2_with fail
 refine (BD.out _).mono ?_;rintro e w3 ⟨rfl,hb⟩
 replace H:=H.below hb;clear hb;replace F:=H.f;dsimp only [Fac] at F
 go_wp2_with fail
 refine (TK.out _).mono ?_;rintro e w4 ⟨rfl,hb⟩
 replace H:=H.below hb;clear hb;replace F:=H.f;dsimp only [Fac] at F
 go_wp2_with fail
 refine (((H.set 2 _).set 3 _).set 4 _).gob ?_;clear H F;intro wz H;dsimp only [upd] at H;have F:=H.f;dsimp only [Fac] at F
 refine bodyPost_ret (by simp [results,Tryz.results63,go_sem,F]) rfl ⟨rfl,?_⟩;exact H.B
theorem decoof_any (a b:Nat) (d:Int) (wa:Wd a) (wb:Wd b) (w:World) :
  Calls Tryz.prog 63 #[.agg #[.float .f64 (a),.float .f64 (b)],.int .i64 d] w fun e w'=>e = .returned (.agg #[.float .f64 (ofKey (dLo a b d)),.float .f64 (ofKey (dHi a b d)),.int .i64 (dD a b d)])∧Below w.heap.size w w':=by
 unfold dLo dHi dD
 by_cases h0:d≤0
 ·have hi:dIll a b d := .inl h0
  rw [if_pos hi,if_pos hi,if_pos hi];exact of_ill1 a b d wa wb h0 w
 by_cases h:4<d
 ·have hi:dIll a b d := .inr (.inl h)
  rw [if_pos hi,if_pos hi,if_pos hi];exact of_ill2 a b d wa wb h0 h w
 by_cases hg:good a b=true
 ·have hi : ¬dIll a b d:=by unfold dIll;rw [hg];simp;omega
  rw [if_neg hi,if_neg hi,if_neg hi]
  obtain ⟨na,nb,_⟩:=good_cases hg
  have ea:tkLo a b=key a:=by unfold tkLo;rw [if_pos hg]
  have eb:tkHi a b=key b:=by unfold tkHi;rw [if_pos hg]
  by_cases he:key a=PI∧key b = -PI
  ·rw [if_pos (by rw [ea,eb];exact he)]
   exact of_empty a b d wa wb h0 h hg na nb he w
  ·rw [if_neg (by rw [ea,eb];exact he)]
   by_cases hb:Bnd (key a) (key b)
   ·rw [if_pos (by rw [ea,eb];exact hb)]
    exact of_bnd a b d wa wb h0 h hg na nb he hb w
   ·rw [if_neg (by rw [ea,eb];exact hb)]
    exact of_unb a b d wa wb h0 h hg na nb he hb w
 ·have hi:dIll a b d := .inr (.inr (by simpa using hg))
  rw [if_pos hi,if_pos hi,if_pos hi];exact of_ill3 a b d wa wb h0 h (by simpa using hg) w
theorem spansdecorate_any (a b:Nat) (d:Int) (wa:Wd a) (wb:Wd b) (w:World) :
  Calls Tryz.prog 30 #[.agg #[.float .f64 (a),.float .f64 (b)],.int .i64 d] w fun e w'=>e = .returned (.agg #[.float .f64 (ofKey (dLo a b d)),.float .f64 (ofKey (dHi a b d)),.int .i64 (dD a b d)])∧Below w.heap.size w w':=by
 have OF:=Lib.hid (fun w=>decoof_any a b d wa wb w)
 have q:=dc_iv a b d
 have q1:=q.1;have q2:=q.2.1
 clear q
 generalize dLo a b d=x at *
 generalize dHi a b d=y at *
 generalize dD a b d=z at *
 go_enter Tryz.func30,Tryz.ntmps30
 go_wp2_with fail
 refine (OF.out _).mono ?_;rintro e w1 ⟨rfl,hb⟩
 have H:=Hold.i23.below hb;clear hb;have F:=H.f;dsimp only [Fac] at F
 go_wp2_with fail
 refine (((H.set 2 _).set 3 _).set 4 _).gob ?_;clear H F;intro wz H;dsimp only [upd] at H;have F:=H.f;dsimp only [Fac] at F
 refine bodyPost_ret (by simp [results,Tryz.results30,go_sem,F]) rfl ⟨rfl,?_⟩;exact H.B
end Go.Proofs.YteephgpefhodnaaGreat
