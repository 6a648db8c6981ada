/- Contracts of the relations, in the program and in the document's answer. -/
import Derived.Test.YteephgpefhodnaaGreatA4
namespace Go.Proofs.YteephgpefhodnaaGreat
open Go.RowKit Go.Sort Go.Fl
set_option linter.unusedSimpArgs false
set_option linter.unusedVariables false
def isB (r a b c d:Int):Bool :=
 if r=0 then decide (a=c∧b=d)
 else if r=1 then decide (b<a∨(c≤a∧b≤d))
 else if r=2 then decide (b<a∨(¬d<c∧(c<a∨c = -PI)∧(b<d∨d=PI)))
 else if r=3 then decide (b<a∨d<c∨b<c∨d<a)
 else if r=4 then decide ((b<a∧d<c)∨(¬b<a ∧ ¬d<c∧a≤c∧b≤d))
 else if r=5 then decide (b<a∨d<c∨b≤c)
 else false
theorem isB_0 (a b c d:Int):isB 0 a b c d=decide (a=c∧b=d):=rfl
theorem isB_1 (a b c d:Int):isB 1 a b c d=decide (b<a∨(c≤a∧b≤d)):=rfl
theorem isB_2 (a b c d:Int):isB 2 a b c d=decide (b<a∨(¬d<c∧(c<a∨c = -PI)∧(b<d∨d=PI))):=rfl
theorem isB_3 (a b c d:Int):isB 3 a b c d=decide (b<a∨d<c∨b<c∨d<a):=rfl
theorem isB_4 (a b c d:Int):isB 4 a b c d=decide ((b<a∧d<c)∨(¬b<a ∧ ¬d<c∧a≤c∧b≤d)):=rfl
theorem isB_5 (a b c d:Int):isB 5 a b c d=decide (b<a∨d<c∨b≤c):=rfl
theorem isB_no {r:Int} (h:r<0∨5<r) (a b c d:Int):isB r a b c d=false:=by
 unfold isB
 rw [if_neg (by omega),if_neg (by omega),if_neg (by omega),if_neg (by omega),if_neg (by omega),if_neg (by omega)]
theorem hull_canon (A B C D:Int) (h:Iv A B) (h':Iv C D) (w:World) :
  Calls Tryz.prog 62 #[.agg #[.float .f64 (ofKey (A)),.float .f64 (ofKey (B))],.agg #[.float .f64 (ofKey (C)),.float .f64 (ofKey (D))]] w fun e w'=>e = .returned (.agg #[.float .f64 (ofKey (min A C)),.float .f64 (ofKey (max B D))])∧Below w.heap.size w w':=by
 have:=ivlhull_any (ofKey A) (ofKey B) (ofKey C) (ofKey D) (ofKey_lt h.1) (ofKey_lt h.2.1) (ofKey_lt h'.1) (ofKey_lt h'.2.1) w
 rw [(tk_canon h).1,(tk_canon h).2,(tk_canon h').1,(tk_canon h').2] at this
 exact this
theorem meet_canon (A B C D:Int) (h:Iv A B) (h':Iv C D) (w:World) :
  Calls Tryz.prog 60 #[.agg #[.float .f64 (ofKey (A)),.float .f64 (ofKey (B))],.agg #[.float .f64 (ofKey (C)),.float .f64 (ofKey (D))]] w fun e w'=>e = .returned (.agg #[.float .f64 (ofKey (meetLo A B C D)),.float .f64 (ofKey (meetHi A B C D))])∧Below w.heap.size w w':=by
 have:=ivlmeet_any (ofKey A) (ofKey B) (ofKey C) (ofKey D) (ofKey_lt h.1) (ofKey_lt h.2.1) (ofKey_lt h'.1) (ofKey_lt h'.2.1) w
 rw [(tk_canon h).1,(tk_canon h).2,(tk_canon h').1,(tk_canon h').2] at this
 exact this
theorem meet_rg {a b c d:Int} (h:Iv a b) (h':Iv c d):Rg (meetLo a b c d)∧Rg (meetHi a b c d):=by
 unfold meetLo meetHi
 split
 ·exact ⟨Rg_PI,Rg_MI⟩
 ·exact ⟨rg_max h.1 h'.1,rg_min h.2.1 h'.2.1⟩
set_option maxHeartbeats 2000000 in
theorem ivlis_0 (a b c d:Nat) (ha:Wd a) (hb:Wd b) (hc:Wd c) (hd:Wd d) (w:World) :
  Calls Tryz.prog 58 #[.int .i64 0,.agg #[.float .f64 (a),.float .f64 (b)],.agg #[.float .f64 (c),.float .f64 (d)]] w fun e w'=>e = .returned (.bool (isB 0 (tkLo a b) (tkHi a b) (tkLo c d) (tkHi c d)))∧Below w.heap.size w w':=by
 obtain ⟨rA,rB,iA⟩:=tk_iv a b
 obtain ⟨rC,rD,iC⟩:=tk_iv c d
 have rA1:=rA.1;have rA2:=rA.2;have rB1:=rB.1;have rB2:=rB.2;have rC1:=rC.1;have rC2:=rC.2;have rD1:=rD.1;have rD2:=rD.2
 have vA:=tk_iv a b
 have vC:=tk_iv c d
 have he:=eqiv
 have hP:=PI_pos
 go_enter Tryz.func58,Tryz.ntmps58
 go_wp2
 have k00:=cell_regrown (w:=(World.alloc (World.alloc w (.cells #[.float .f64 (a),.float .f64 (b)] 39)) (.cells #[.float .f64 (c),.float .f64 (d)] 39))) (a:=⟨w.heap.size,0,none⟩) (v := .float .f64 (a)) (by simp [go_sem])
 have k01:=cell_regrown (w:=(World.alloc (World.alloc w (.cells #[.float .f64 (a),.float .f64 (b)] 39)) (.cells #[.float .f64 (c),.float .f64 (d)] 39))) (a:=⟨w.heap.size,1,none⟩) (v := .float .f64 (b)) (by simp [go_sem])
 have k10:=cell_regrown (w:=(World.alloc (World.alloc w (.cells #[.float .f64 (a),.float .f64 (b)] 39)) (.cells #[.float .f64 (c),.float .f64 (d)] 39))) (a:=⟨w.heap.size+1,0,none⟩) (v := .float .f64 (c)) (by simp [go_sem])
 have k11:=cell_regrown (w:=(World.alloc (World.alloc w (.cells #[.float .f64 (a),.float .f64 (b)] 39)) (.cells #[.float .f64 (c),.float .f64 (d)] 39))) (a:=⟨w.heap.size+1,1,none⟩) (v := .float .f64 (d)) (by simp [go_sem])
 refine wp_region_below_tail 4 (by kernel_rfl) (by kernel_rfl) ?_
 simp only [List.take_succ_cons,List.take_zero,List.drop_succ_cons,List.drop_zero]
 repeat (go_big_quiet_step ((exact Calls.regrown_of (ivltake_any _ _ (by assumption) (by assumption) _))))
 refine wpQuiet_nil (fun w2 hbw2 => ?_)
 have f00:=RowKit.Below.cells hbw2 (b:=w.heap.size) (o:=0) (v := .float .f64 (a)) (by first|assumption|simp [go_sem])
 have g00:=RowKit.Below.froz hbw2 (b:=w.heap.size) (o:=0) (v := .float .f64 (a)) (by first|assumption|simp [go_sem]) (by first|assumption|simp [go_sem])
 have f01:=RowKit.Below.cells hbw2 (b:=w.heap.size) (o:=1) (v := .float .f64 (b)) (by first|assumption|simp [go_sem])
 have g01:=RowKit.Below.froz hbw2 (b:=w.heap.size) (o:=1) (v := .float .f64 (b)) (by first|assumption|simp [go_sem]) (by first|assumption|simp [go_sem])
 have f10:=RowKit.Below.cells hbw2 (b:=w.heap.size+1) (o:=0) (v := .float .f64 (c)) (by first|assumption|simp [go_sem])
 have g10:=RowKit.Below.froz hbw2 (b:=w.heap.size+1) (o:=0) (v := .float .f64 (c)) (by first|assumption|simp [go_sem]) (by first|assumption|simp [go_sem])
 have f11:=RowKit.Below.cells hbw2 (b:=w.heap.size+1) (o:=1) (v := .float .f64 (d)) (by first|assumption|simp [go_sem])
 have g11:=RowKit.Below.froz hbw2 (b:=w.heap.size+1) (o:=1) (v := .float .f64 (d)) (by first|assumption|simp [go_sem]) (by first|assumption|simp [go_sem])
 have B2:=below_alloc (below_alloc (hbw2))
 have z2:w.heap.size+1<w2.heap.size:=Nat.lt_of_lt_of_le (by simp only [World.size_alloc];omega) hbw2.size
 clear k00 k01 k10 k11 hbw2
 iterate 6 go_step
 obtain ⟨w3,hw3⟩ : ∃ w3,w3=((((w2.setCell ⟨w.heap.size,0,none⟩ (.float .f64 (ofKey (tkLo a b)))).setCell ⟨w.heap.size,1,none⟩ (.float .f64 (ofKey (tkHi a b)))).setCell ⟨w.heap.size+1,0,none⟩ (.float .f64 (ofKey (tkLo c d)))).setCell ⟨w.heap.size+1,1,none⟩ (.float .f64 (ofKey (tkHi c d)))):=⟨_,rfl⟩
 rw [←hw3]
 have F00:w3.cell? ⟨w.heap.size,0,none⟩=some (.float .f64 (ofKey (tkLo a b))):=by rw [hw3];simp [go_sem,f00,f01,f10,f11]
 have H00:w3.frozen? ⟨w.heap.size,0,none⟩=false:=by rw [hw3];simp [go_sem,g00,g01,g10,g11]
 have F01:w3.cell? ⟨w.heap.size,1,none⟩=some (.float .f64 (ofKey (tkHi a b))):=by rw [hw3];simp [go_sem,f00,f01,f10,f11]
 have H01:w3.frozen? ⟨w.heap.size,1,none⟩=false:=by rw [hw3];simp [go_sem,g00,g01,g10,g11]
 have F10:w3.cell? ⟨w.heap.size+1,0,none⟩=some (.float .f64 (ofKey (tkLo c d))):=by rw [hw3];simp [go_sem,f00,f01,f10,f11]
 have H10:w3.frozen? ⟨w.heap.size+1,0,none⟩=false:=by rw [hw3];simp [go_sem,g00,g01,g10,g11]
 have F11:w3.cell? ⟨w.heap.size+1,1,none⟩=some (.float .f64 (ofKey (tkHi c d))):=by rw [hw3];simp [go_sem,f00,f01,f10,f11]
 have H11:w3.frozen? ⟨w.heap.size+1,1,none⟩=false:=by rw [hw3];simp [go_sem,g00,g01,g10,g11]
 have B3:Below w.heap.size w w3:=by rw [hw3];go_grown
 have z3:w.heap.size+1<w3.heap.size:=by rw [hw3];simpa only [World.size_setCell] using z2
 clear hw3 f00 f01 f10 f11 g00 g01 g10 g11 B2 z2
 go_wp2_with (go_at_call 50;refine (ivlno_any _ _ (by assumption) (by assumption) _).mono ?_;rintro e wn ⟨rfl,hbn⟩;replace H00:=RowKit.Below.froz hbn F00 H00;replace F00:=RowKit.Below.cells hbn F00;replace H01:=RowKit.Below.froz hbn F01 H01;replace F01:=RowKit.Below.cells hbn F01;replace H10:=RowKit.Below.froz hbn F10 H10;replace F10:=RowKit.Below.cells hbn F10;replace H11:=RowKit.Below.froz hbn F11 H11;replace F11:=RowKit.Below.cells hbn F11;replace B3:=below_step B3 B3.size hbn;replace z3:=Nat.lt_of_lt_of_le z3 hbn.size;clear hbn)
 all_goals go_ret
 all_goals refine ⟨ret_b ?_,B3⟩
 all_goals rw [isB_0]
 all_goals (first|rfl|(refine (decide_eq_true ?_).symm;omega)|(refine (decide_eq_false ?_).symm;omega)|(refine decide_eq_decide.2 ?_;omega)|(rw [Bool.eq_iff_iff];simp only [Bool.and_eq_true,Bool.or_eq_true,Bool.not_eq_true,Bool.not_eq_eq_eq_not,Bool.not_true,Bool.not_false,decide_eq_true_eq,decide_eq_false_iff_not,Bool.false_eq_true,true_iff,false_iff]<;>omega))
set_option maxHeartbeats 2000000 in
theorem ivlis_1 (a b c d:Nat) (ha:Wd a) (hb:Wd b) (hc:Wd c) (hd:Wd d) (w:World) :
  Calls Tryz.prog 58 #[.int .i64 1,.agg #[.float .f64 (a),.float .f64 (b)],.agg #[.float .f64 (c),.float .f64 (d)]] w fun e w'=>e = .returned (.bool (isB 1 (tkLo a b) (tkHi a b) (tkLo c d) (tkHi c d)))∧Below w.heap.size w w':=by
 obtain ⟨rA,rB,iA⟩:=tk_iv a b
 obtain ⟨rC,rD,iC⟩:=tk_iv c d
 have rA1:=rA.1;have rA2:=rA.2;have rB1:=rB.1;have rB2:=rB.2;have rC1:=rC.1;have rC2:=rC.2;have rD1:=rD.1;have rD2:=rD.2
 have vA:=tk_iv a b
 have vC:=tk_iv c d
 have he:=eqiv
 have hP:=PI_pos
 go_enter Tryz.func58,Tryz.ntmps58
 go_wp2
 have k00:=cell_regrown (w:=(World.alloc (World.alloc w (.cells #[.float .f64 (a),.float .f64 (b)] 39)) (.cells #[.float .f64 (c),.float .f64 (d)] 39))) (a:=⟨w.heap.size,0,none⟩) (v := .float .f64 (a)) (by simp [go_sem])
 have k01:=cell_regrown (w:=(World.alloc (World.alloc w (.cells #[.float .f64 (a),.float .f64 (b)] 39)) (.cells #[.float .f64 (c),.float .f64 (d)] 39))) (a:=⟨w.heap.size,1,none⟩) (v := .float .f64 (b)) (by simp [go_sem])
 have k10:=cell_regrown (w:=(World.alloc (World.alloc w (.cells #[.float .f64 (a),.float .f64 (b)] 39)) (.cells #[.float .f64 (c),.float .f64 (d)] 39))) (a:=⟨w.heap.size+1,0,none⟩) (v := .float .f64 (c)) (by simp [go_sem])
 have k11:=cell_regrown (w:=(World.alloc (World.alloc w (.cells #[.float .f64 (a),.float .f64 (b)] 39)) (.cells #[.float .f64 (c),.float .f64 (d)] 39))) (a:=⟨w.heap.size+1,1,none⟩) (v := .float .f64 (d)) (by simp [go_sem])
 refine wp_region_below_tail 4 (by kernel_rfl) (by kernel_rfl) ?_
 simp only [List.take_succ_cons,List.take_zero,List.drop_succ_cons,List.drop_zero]
 repeat (go_big_quiet_step ((exact Calls.regrown_of (ivltake_any _ _ (by assumption) (by assumption) _))))
 refine wpQuiet_nil (fun w2 hbw2 => ?_)
 have f00:=RowKit.Below.cells hbw2 (b:=w.heap.size) (o:=0) (v := .float .f64 (a)) (by first|assumption|simp [go_sem])
 have g00:=RowKit.Below.froz hbw2 (b:=w.heap.size) (o:=0) (v := .float .f64 (a)) (by first|assumption|simp [go_sem]) (by first|assumption|simp [go_sem])
 have f01:=RowKit.Below.cells hbw2 (b:=w.heap.size) (o:=1) (v := .float .f64 (b)) (by first|assumption|simp [go_sem])
 have g01:=RowKit.Below.froz hbw2 (b:=w.heap.size) (o:=1) (v := .float .f64 (b)) (by first|assumption|simp [go_sem]) (by first|assumption|simp [go_sem])
 have f10:=RowKit.Below.cells hbw2 (b:=w.heap.size+1) (o:=0) (v := .float .f64 (c)) (by first|assumption|simp [go_sem])
 have g10:=RowKit.Below.froz hbw2 (b:=w.heap.size+1) (o:=0) (v := .float .f64 (c)) (by first|assumption|simp [go_sem]) (by first|assumption|simp [go_sem])
 have f11:=RowKit.Below.cells hbw2 (b:=w.heap.size+1) (o:=1) (v := .float .f64 (d)) (by first|assumption|simp [go_sem])
 have g11:=RowKit.Below.froz hbw2 (b:=w.heap.size+1) (o:=1) (v := .float .f64 (d)) (by first|assumption|simp [go_sem]) (by first|assumption|simp [go_sem])
 have B2:=below_alloc (below_alloc (hbw2))
 have z2:w.heap.size+1<w2.heap.size:=Nat.lt_of_lt_of_le (by simp only [World.size_alloc];omega) hbw2.size
 clear k00 k01 k10 k11 hbw2
 iterate 6 go_step
 obtain ⟨w3,hw3⟩ : ∃ w3,w3=((((w2.setCell ⟨w.heap.size,0,none⟩ (.float .f64 (ofKey (tkLo a b)))).setCell ⟨w.heap.size,1,none⟩ (.float .f64 (ofKey (tkHi a b)))).setCell ⟨w.heap.size+1,0,none⟩ (.float .f64 (ofKey (tkLo c d)))).setCell ⟨w.heap.size+1,1,none⟩ (.float .f64 (ofKey (tkHi c d)))):=⟨_,rfl⟩
 rw [←hw3]
 have F00:w3.cell? ⟨w.heap.size,0,none⟩=some (.float .f64 (ofKey (tkLo a b))):=by rw [hw3];simp [go_sem,f00,f01,f10,f11]
 have H00:w3.frozen? ⟨w.heap.size,0,none⟩=false:=by rw [hw3];simp [go_sem,g00,g01,g10,g11]
 have F01:w3.cell? ⟨w.heap.size,1,none⟩=some (.float .f64 (ofKey (tkHi a b))):=by rw [hw3];simp [go_sem,f00,f01,f10,f11]
 have H01:w3.frozen? ⟨w.heap.size,1,none⟩=false:=by rw [hw3];simp [go_sem,g00,g01,g10,g11]
 have F10:w3.cell? ⟨w.heap.size+1,0,none⟩=some (.float .f64 (ofKey (tkLo c d))):=by rw [hw3];simp [go_sem,f00,f01,f10,f11]
 have H10:w3.frozen? ⟨w.heap.size+1,0,none⟩=false:=by rw [hw3];simp [go_sem,g00,g01,g10,g11]
 have F11:w3.cell? ⟨w.heap.size+1,1,none⟩=some (.float .f64 (ofKey (tkHi c d))):=by rw [hw3];simp [go_sem,f00,f01,f10,f11]
 have H11:w3.frozen? ⟨w.heap.size+1,1,none⟩=false:=by rw [hw3];simp [go_sem,g00,g01,g10,g11]
 have B3:Below w.heap.size w w3:=by rw [hw3];go_grown
 have z3:w.heap.size+1<w3.heap.size:=by rw [hw3];simpa only [World.size_setCell] using z2
 clear hw3 f00 f01 f10 f11 g00 g01 g10 g11 B2 z2
 go_wp2_with (go_at_call 50;refine (ivlno_any _ _ (by assumption) (by assumption) _).mono ?_;rintro e wn ⟨rfl,hbn⟩;replace H00:=RowKit.Below.froz hbn F00 H00;replace F00:=RowKit.Below.cells hbn F00;replace H01:=RowKit.Below.froz hbn F01 H01;replace F01:=RowKit.Below.cells hbn F01;replace H10:=RowKit.Below.froz hbn F10 H10;replace F10:=RowKit.Below.cells hbn F10;replace H11:=RowKit.Below.froz hbn F11 H11;replace F11:=RowKit.Below.cells hbn F11;replace B3:=below_step B3 B3.size hbn;replace z3:=Nat.lt_of_lt_of_le z3 hbn.size;clear hbn)
 all_goals have k00:=cell_regrown F00
 all_goals have k01:=cell_regrown F01
 all_goals have k10:=cell_regrown F10
 all_goals have k11:=cell_regrown F11
 all_goals have rM:=rg_min rA rC
 all_goals have rm:=rg_max rB rD
 all_goals refine wp_region_below (by kernel_rfl) (by kernel_rfl) ?_
 repeat (any_goals (first|go_big_quiet_step ((exact Calls.regrown_of (hull_canon _ _ _ _ vA vC _)))|quiet_step ((exact Calls.regrown_of (hull_canon _ _ _ _ vA vC _)))|(refine wpQuiet_step (fun K hK => ?_);go_simp;split<;>(refine hK _ ?_;clear hK K))))
 all_goals (refine wpQuiet_nil (fun w5 hbw5 => ?_))
 all_goals replace B3:=below_step B3 B3.size hbw5
 all_goals clear k00 k01 k10 k11
 all_goals go_wp2
 all_goals go_ret
 all_goals refine ⟨ret_b ?_,B3⟩
 all_goals rw [isB_1]
 all_goals (first|rfl|(refine (decide_eq_true ?_).symm;omega)|(refine (decide_eq_false ?_).symm;omega)|(refine decide_eq_decide.2 ?_;omega)|(rw [Bool.eq_iff_iff];simp only [Bool.and_eq_true,Bool.or_eq_true,Bool.not_eq_true,Bool.not_eq_eq_eq_not,Bool.not_true,Bool.not_false,decide_eq_true_eq,decide_eq_false_iff_not,Bool.false_eq_true,true_iff,false_iff]<;>omega))
set_option maxHeartbeats 2000000 in
theorem ivlis_2a (a b c d:Nat) (ha:Wd a) (hb:Wd b) (hc:Wd c) (hd:Wd d) (dA:decide (tkLo a b=PI∧tkHi a b = -PI)=true) (dC:decide (tkLo c d=PI∧tkHi c d = -PI)=true) (w:World) :
  Calls Tryz.prog 58 #[.int .i64 2,.agg #[.float .f64 (a),.float .f64 (b)],.agg #[.float .f64 (c),.float .f64 (d)]] w fun e w'=>e = .returned (.bool (isB 2 (tkLo a b) (tkHi a b) (tkLo c d) (tkHi c d)))∧Below w.heap.size w w':=by
 obtain ⟨rA,rB,iA⟩:=tk_iv a b
 obtain ⟨rC,rD,iC⟩:=tk_iv c d
 have rA1:=rA.1;have rA2:=rA.2;have rB1:=rB.1;have rB2:=rB.2;have rC1:=rC.1;have rC2:=rC.2;have rD1:=rD.1;have rD2:=rD.2
 have vA:=tk_iv a b
 have vC:=tk_iv c d
 have he:=eqiv
 have hP:=PI_pos
 go_enter Tryz.func58,Tryz.ntmps58
 go_wp2
 have k00:=cell_regrown (w:=(World.alloc (World.alloc w (.cells #[.float .f64 (a),.float .f64 (b)] 39)) (.cells #[.float .f64 (c),.float .f64 (d)] 39))) (a:=⟨w.heap.size,0,none⟩) (v := .float .f64 (a)) (by simp [go_sem])
 have k01:=cell_regrown (w:=(World.alloc (World.alloc w (.cells #[.float .f64 (a),.float .f64 (b)] 39)) (.cells #[.float .f64 (c),.float .f64 (d)] 39))) (a:=⟨w.heap.size,1,none⟩) (v := .float .f64 (b)) (by simp [go_sem])
 have k10:=cell_regrown (w:=(World.alloc (World.alloc w (.cells #[.float .f64 (a),.float .f64 (b)] 39)) (.cells #[.float .f64 (c),.float .f64 (d)] 39))) (a:=⟨w.heap.size+1,0,none⟩) (v := .float .f64 (c)) (by simp [go_sem])
 have k11:=cell_regrown (w:=(World.alloc (World.alloc w (.cells #[.float .f64 (a),.float .f64 (b)] 39)) (.cells #[.float .f64 (c),.float .f64 (d)] 39))) (a:=⟨w.heap.size+1,1,none⟩) (v := .float .f64 (d)) (by simp [go_sem])
 refine wp_region_below_tail 4 (by kernel_rfl) (by kernel_rfl) ?_
 simp only [List.take_succ_cons,List.take_zero,List.drop_succ_cons,List.drop_zero]
 repeat (go_big_quiet_step ((exact Calls.regrown_of (ivltake_any _ _ (by assumption) (by assumption) _))))
 refine wpQuiet_nil (fun w2 hbw2 => ?_)
 have f00:=RowKit.Below.cells hbw2 (b:=w.heap.size) (o:=0) (v := .float .f64 (a)) (by first|assumption|simp [go_sem])
 have g00:=RowKit.Below.froz hbw2 (b:=w.heap.size) (o:=0) (v := .float .f64 (a)) (by first|assumption|simp [go_sem]) (by first|assumption|simp [go_sem])
 have f01:=RowKit.Below.cells hbw2 (b:=w.heap.size) (o:=1) (v := .float .f64 (b)) (by first|assumption|simp [go_sem])
 have g01:=RowKit.Below.froz hbw2 (b:=w.heap.size) (o:=1) (v := .float .f64 (b)) (by first|assumption|simp [go_sem]) (by first|assumption|simp [go_sem])
 have f10:=RowKit.Below.cells hbw2 (b:=w.heap.size+1) (o:=0) (v := .float .f64 (c)) (by first|assumption|simp [go_sem])
 have g10:=RowKit.Below.froz hbw2 (b:=w.heap.size+1) (o:=0) (v := .float .f64 (c)) (by first|assumption|simp [go_sem]) (by first|assumption|simp [go_sem])
 have f11:=RowKit.Below.cells hbw2 (b:=w.heap.size+1) (o:=1) (v := .float .f64 (d)) (by first|assumption|simp [go_sem])
 have g11:=RowKit.Below.froz hbw2 (b:=w.heap.size+1) (o:=1) (v := .float .f64 (d)) (by first|assumption|simp [go_sem]) (by first|assumption|simp [go_sem])
 have B2:=below_alloc (below_alloc (hbw2))
 have z2:w.heap.size+1<w2.heap.size:=Nat.lt_of_lt_of_le (by simp only [World.size_alloc];omega) hbw2.size
 clear k00 k01 k10 k11 hbw2
 iterate 6 go_step
 obtain ⟨w3,hw3⟩ : ∃ w3,w3=((((w2.setCell ⟨w.heap.size,0,none⟩ (.float .f64 (ofKey (tkLo a b)))).setCell ⟨w.heap.size,1,none⟩ (.float .f64 (ofKey (tkHi a b)))).setCell ⟨w.heap.size+1,0,none⟩ (.float .f64 (ofKey (tkLo c d)))).setCell ⟨w.heap.size+1,1,none⟩ (.float .f64 (ofKey (tkHi c d)))):=⟨_,rfl⟩
 rw [←hw3]
 have F00:w3.cell? ⟨w.heap.size,0,none⟩=some (.float .f64 (ofKey (tkLo a b))):=by rw [hw3];simp [go_sem,f00,f01,f10,f11]
 have H00:w3.frozen? ⟨w.heap.size,0,none⟩=false:=by rw [hw3];simp [go_sem,g00,g01,g10,g11]
 have F01:w3.cell? ⟨w.heap.size,1,none⟩=some (.float .f64 (ofKey (tkHi a b))):=by rw [hw3];simp [go_sem,f00,f01,f10,f11]
 have H01:w3.frozen? ⟨w.heap.size,1,none⟩=false:=by rw [hw3];simp [go_sem,g00,g01,g10,g11]
 have F10:w3.cell? ⟨w.heap.size+1,0,none⟩=some (.float .f64 (ofKey (tkLo c d))):=by rw [hw3];simp [go_sem,f00,f01,f10,f11]
 have H10:w3.frozen? ⟨w.heap.size+1,0,none⟩=false:=by rw [hw3];simp [go_sem,g00,g01,g10,g11]
 have F11:w3.cell? ⟨w.heap.size+1,1,none⟩=some (.float .f64 (ofKey (tkHi c d))):=by rw [hw3];simp [go_sem,f00,f01,f10,f11]
 have H11:w3.frozen? ⟨w.heap.size+1,1,none⟩=false:=by rw [hw3];simp [go_sem,g00,g01,g10,g11]
 have B3:Below w.heap.size w w3:=by rw [hw3];go_grown
 have z3:w.heap.size+1<w3.heap.size:=by rw [hw3];simpa only [World.size_setCell] using z2
 clear hw3 f00 f01 f10 f11 g00 g01 g10 g11 B2 z2
 go_wp2_with (go_at_call 50;refine (ivlno_any _ _ (by assumption) (by assumption) _).mono ?_;rintro e wn ⟨rfl,hbn⟩;replace H00:=RowKit.Below.froz hbn F00 H00;replace F00:=RowKit.Below.cells hbn F00;replace H01:=RowKit.Below.froz hbn F01 H01;replace F01:=RowKit.Below.cells hbn F01;replace H10:=RowKit.Below.froz hbn F10 H10;replace F10:=RowKit.Below.cells hbn F10;replace H11:=RowKit.Below.froz hbn F11 H11;replace F11:=RowKit.Below.cells hbn F11;replace B3:=below_step B3 B3.size hbn;replace z3:=Nat.lt_of_lt_of_le z3 hbn.size;clear hbn)
 all_goals have k00:=cell_regrown F00
 all_goals have k01:=cell_regrown F01
 all_goals have k10:=cell_regrown F10
 all_goals have k11:=cell_regrown F11
 all_goals have rM:=rg_min rA rC
 all_goals have rm:=rg_max rB rD
 all_goals refine wp_region_below (by kernel_rfl) (by kernel_rfl) ?_
 repeat (any_goals (first|go_big_quiet_step ((first|(go_at_call 50;exact Calls.regrown_of (ivlno_any _ _ (by assumption) (by assumption) _))|(go_at_call 90;exact quiet_same (ivlinf_any _))))|quiet_step ((first|(go_at_call 50;exact Calls.regrown_of (ivlno_any _ _ (by assumption) (by assumption) _))|(go_at_call 90;exact quiet_same (ivlinf_any _))))|(refine wpQuiet_step (fun K hK => ?_);go_simp;split<;>(refine hK _ ?_;clear hK K))))
 all_goals (refine wpQuiet_nil (fun w5 hbw5 => ?_))
 all_goals replace B3:=below_step B3 B3.size hbw5
 all_goals clear k00 k01 k10 k11
 all_goals go_wp2
 all_goals go_ret
 all_goals refine ⟨ret_b ?_,B3⟩
 all_goals rw [isB_2]
 all_goals simp only [decide_eq_true_eq,decide_eq_false_iff_not] at dA dC
 all_goals (first|rfl|(refine (decide_eq_true ?_).symm;omega)|(refine (decide_eq_false ?_).symm;omega)|(refine decide_eq_decide.2 ?_;omega)|(rw [Bool.eq_iff_iff];simp only [Bool.and_eq_true,Bool.or_eq_true,Bool.not_eq_true,Bool.not_eq_eq_eq_not,Bool.not_true,Bool.not_false,decide_eq_true_eq,decide_eq_false_iff_not,Bool.false_eq_true,true_iff,false_iff]<;>omega))
set_option maxHeartbeats 2000000 in
theorem ivlis_2b (a b c d:Nat) (ha:Wd a) (hb:Wd b) (hc:Wd c) (hd:Wd d) (dA:decide (tkLo a b=PI∧tkHi a b = -PI)=true) (dC:decide (tkLo c d=PI∧tkHi c d = -PI)=false) (w:World) :
  Calls Tryz.prog 58 #[.int .i64 2,.agg #[.float .f64 (a),.float .f64 (b)],.agg #[.float .f64 (c),.float .f64 (d)]] w fun e w'=>e = .returned (.bool (isB 2 (tkLo a b) (tkHi a b) (tkLo c d) (tkHi c d)))∧Below w.heap.size w w':=by
 obtain ⟨rA,rB,iA⟩:=tk_iv a b
 obtain ⟨rC,rD,iC⟩:=tk_iv c d
 have rA1:=rA.1;have rA2:=rA.2;have rB1:=rB.1;have rB2:=rB.2;have rC1:=rC.1;have rC2:=rC.2;have rD1:=rD.1;have rD2:=rD.2
 have vA:=tk_iv a b
 have vC:=tk_iv c d
 have he:=eqiv
 have hP:=PI_pos
 go_enter Tryz.func58,Tryz.ntmps58
 go_wp2
 have k00:=cell_regrown (w:=(World.alloc (World.alloc w (.cells #[.float .f64 (a),.float .f64 (b)] 39)) (.cells #[.float .f64 (c),.float .f64 (d)] 39))) (a:=⟨w.heap.size,0,none⟩) (v := .float .f64 (a)) (by simp [go_sem])
 have k01:=cell_regrown (w:=(World.alloc (World.alloc w (.cells #[.float .f64 (a),.float .f64 (b)] 39)) (.cells #[.float .f64 (c),.float .f64 (d)] 39))) (a:=⟨w.heap.size,1,none⟩) (v := .float .f64 (b)) (by simp [go_sem])
 have k10:=cell_regrown (w:=(World.alloc (World.alloc w (.cells #[.float .f64 (a),.float .f64 (b)] 39)) (.cells #[.float .f64 (c),.float .f64 (d)] 39))) (a:=⟨w.heap.size+1,0,none⟩) (v := .float .f64 (c)) (by simp [go_sem])
 have k11:=cell_regrown (w:=(World.alloc (World.alloc w (.cells #[.float .f64 (a),.float .f64 (b)] 39)) (.cells #[.float .f64 (c),.float .f64 (d)] 39))) (a:=⟨w.heap.size+1,1,none⟩) (v := .float .f64 (d)) (by simp [go_sem])
 refine wp_region_below_tail 4 (by kernel_rfl) (by kernel_rfl) ?_
 simp only [List.take_succ_cons,List.take_zero,List.drop_succ_cons,List.drop_zero]
 repeat (go_big_quiet_step ((exact Calls.regrown_of (ivltake_any _ _ (by assumption) (by assumption) _))))
 refine wpQuiet_nil (fun w2 hbw2 => ?_)
 have f00:=RowKit.Below.cells hbw2 (b:=w.heap.size) (o:=0) (v := .float .f64 (a)) (by first|assumption|simp [go_sem])
 have g00:=RowKit.Below.froz hbw2 (b:=w.heap.size) (o:=0) (v := .float .f64 (a)) (by first|assumption|simp [go_sem]) (by first|assumption|simp [go_sem])
 have f01:=RowKit.Below.cells hbw2 (b:=w.heap.size) (o:=1) (v := .float .f64 (b)) (by first|assumption|simp [go_sem])
 have g01:=RowKit.Below.froz hbw2 (b:=w.heap.size) (o:=1) (v := .float .f64 (b)) (by first|assumption|simp [go_sem]) (by first|assumption|simp [go_sem])
 have f10:=RowKit.Below.cells hbw2 (b:=w.heap.size+1) (o:=0) (v := .float .f64 (c)) (by first|assumption|simp [go_sem])
 have g10:=RowKit.Below.froz hbw2 (b:=w.heap.size+1) (o:=0) (v := .float .f64 (c)) (by first|assumption|simp [go_sem]) (by first|assumption|simp [go_sem])
 have f11:=RowKit.Below.cells hbw2 (b:=w.heap.size+1) (o:=1) (v := .float .f64 (d)) (by first|assumption|simp [go_sem])
 have g11:=RowKit.Below.froz hbw2 (b:=w.heap.size+1) (o:=1) (v := .float .f64 (d)) (by first|assumption|simp [go_sem]) (by first|assumption|simp [go_sem])
 have B2:=below_alloc (below_alloc (hbw2))
 have z2:w.heap.size+1<w2.heap.size:=Nat.lt_of_lt_of_le (by simp only [World.size_alloc];omega) hbw2.size
 clear k00 k01 k10 k11 hbw2
 iterate 6 go_step
 obtain ⟨w3,hw3⟩ : ∃ w3,w3=((((w2.setCell ⟨w.heap.size,0,none⟩ (.float .f64 (ofKey (tkLo a b)))).setCell ⟨w.heap.size,1,none⟩ (.float .f64 (ofKey (tkHi a b)))).setCell ⟨w.heap.size+1,0,none⟩ (.float .f64 (ofKey (tkLo c d)))).setCell ⟨w.heap.size+1,1,none⟩ (.float .f64 (ofKey (tkHi c d)))):=⟨_,rfl⟩
 rw [←hw3]
 have F00:w3.cell? ⟨w.heap.size,0,none⟩=some (.float .f64 (ofKey (tkLo a b))):=by rw [hw3];simp [go_sem,f00,f01,f10,f11]
 have H00:w3.frozen? ⟨w.heap.size,0,none⟩=false:=by rw [hw3];simp [go_sem,g00,g01,g10,g11]
 have F01:w3.cell? ⟨w.heap.size,1,none⟩=some (.float .f64 (ofKey (tkHi a b))):=by rw [hw3];simp [go_sem,f00,f01,f10,f11]
 have H01:w3.frozen? ⟨w.heap.size,1,none⟩=false:=by rw [hw3];simp [go_sem,g00,g01,g10,g11]
 have F10:w3.cell? ⟨w.heap.size+1,0,none⟩=some (.float .f64 (ofKey (tkLo c d))):=by rw [hw3];simp [go_sem,f00,f01,f10,f11]
 have H10:w3.frozen? ⟨w.heap.size+1,0,none⟩=false:=by rw [hw3];simp [go_sem,g00,g01,g10,g11]
 have F11:w3.cell? ⟨w.heap.size+1,1,none⟩=some (.float .f64 (ofKey (tkHi c d))):=by rw [hw3];simp [go_sem,f00,f01,f10,f11]
 have H11:w3.frozen? ⟨w.heap.size+1,1,none⟩=false:=by rw [hw3];simp [go_sem,g00,g01,g10,g11]
 have B3:Below w.heap.size w w3:=by rw [hw3];go_grown
 have z3:w.heap.size+1<w3.heap.size:=by rw [hw3];simpa only [World.size_setCell] using z2
 clear hw3 f00 f01 f10 f11 g00 g01 g10 g11 B2 z2
 go_wp2_with (go_at_call 50;refine (ivlno_any _ _ (by assumption) (by assumption) _).mono ?_;rintro e wn ⟨rfl,hbn⟩;replace H00:=RowKit.Below.froz hbn F00 H00;replace F00:=RowKit.Below.cells hbn F00;replace H01:=RowKit.Below.froz hbn F01 H01;replace F01:=RowKit.Below.cells hbn F01;replace H10:=RowKit.Below.froz hbn F10 H10;replace F10:=RowKit.Below.cells hbn F10;replace H11:=RowKit.Below.froz hbn F11 H11;replace F11:=RowKit.Below.cells hbn F11;replace B3:=below_step B3 B3.size hbn;replace z3:=Nat.lt_of_lt_of_le z3 hbn.size;clear hbn)
 all_goals have k00:=cell_regrown F00
 all_goals have k01:=cell_regrown F01
 all_goals have k10:=cell_regrown F10
 all_goals have k11:=cell_regrown F11
 all_goals have rM:=rg_min rA rC
 all_goals have rm:=rg_max rB rD
 all_goals refine wp_region_below (by kernel_rfl) (by kernel_rfl) ?_
 repeat (any_goals (first|go_big_quiet_step ((first|(go_at_call 50;exact Calls.regrown_of (ivlno_any _ _ (by assumption) (by assumption) _))|(go_at_call 90;exact quiet_same (ivlinf_any _))))|quiet_step ((first|(go_at_call 50;exact Calls.regrown_of (ivlno_any _ _ (by assumption) (by assumption) _))|(go_at_call 90;exact quiet_same (ivlinf_any _))))|(refine wpQuiet_step (fun K hK => ?_);go_simp;split<;>(refine hK _ ?_;clear hK K))))
 all_goals (refine wpQuiet_nil (fun w5 hbw5 => ?_))
 all_goals replace B3:=below_step B3 B3.size hbw5
 all_goals clear k00 k01 k10 k11
 all_goals go_wp2
 all_goals go_ret
 all_goals refine ⟨ret_b ?_,B3⟩
 all_goals rw [isB_2]
 all_goals simp only [decide_eq_true_eq,decide_eq_false_iff_not] at dA dC
 all_goals (first|rfl|(refine (decide_eq_true ?_).symm;omega)|(refine (decide_eq_false ?_).symm;omega)|(refine decide_eq_decide.2 ?_;omega)|(rw [Bool.eq_iff_iff];simp only [Bool.and_eq_true,Bool.or_eq_true,Bool.not_eq_true,Bool.not_eq_eq_eq_not,Bool.not_true,Bool.not_false,decide_eq_true_eq,decide_eq_false_iff_not,Bool.false_eq_true,true_iff,false_iff]<;>omega))
set_option maxHeartbeats 2000000 in
theorem ivlis_2c (a b c d:Nat) (ha:Wd a) (hb:Wd b) (hc:Wd c) (hd:Wd d) (dA:decide (tkLo a b=PI∧tkHi a b = -PI)=false) (dC:decide (tkLo c d=PI∧tkHi c d = -PI)=true) (w:World) :
  Calls Tryz.prog 58 #[.int .i64 2,.agg #[.float .f64 (a),.float .f64 (b)],.agg #[.float .f64 (c),.float .f64 (d)]] w fun e w'=>e = .returned (.bool (isB 2 (tkLo a b) (tkHi a b) (tkLo c d) (tkHi c d)))∧Below w.heap.size w w':=by
 obtain ⟨rA,rB,iA⟩:=tk_iv a b
 obtain ⟨rC,rD,iC⟩:=tk_iv c d
 have rA1:=rA.1;have rA2:=rA.2;have rB1:=rB.1;have rB2:=rB.2;have rC1:=rC.1;have rC2:=rC.2;have rD1:=rD.1;have rD2:=rD.2
 have vA:=tk_iv a b
 have vC:=tk_iv c d
 have he:=eqiv
 have hP:=PI_pos
 go_enter Tryz.func58,Tryz.ntmps58
 go_wp2
 have k00:=cell_regrown (w:=(World.alloc (World.alloc w (.cells #[.float .f64 (a),.float .f64 (b)] 39)) (.cells #[.float .f64 (c),.float .f64 (d)] 39))) (a:=⟨w.heap.size,0,none⟩) (v := .float .f64 (a)) (by simp [go_sem])
 have k01:=cell_regrown (w:=(World.alloc (World.alloc w (.cells #[.float .f64 (a),.float .f64 (b)] 39)) (.cells #[.float .f64 (c),.float .f64 (d)] 39))) (a:=⟨w.heap.size,1,none⟩) (v := .float .f64 (b)) (by simp [go_sem])
 have k10:=cell_regrown (w:=(World.alloc (World.alloc w (.cells #[.float .f64 (a),.float .f64 (b)] 39)) (.cells #[.float .f64 (c),.float .f64 (d)] 39))) (a:=⟨w.heap.size+1,0,none⟩) (v := .float .f64 (c)) (by simp [go_sem])
 have k11:=cell_regrown (w:=(World.alloc (World.alloc w (.cells #[.float .f64 (a),.float .f64 (b)] 39)) (.cells #[.float .f64 (c),.float .f64 (d)] 39))) (a:=⟨w.heap.size+1,1,none⟩) (v := .float .f64 (d)) (by simp [go_sem])
 refine wp_region_below_tail 4 (by kernel_rfl) (by kernel_rfl) ?_
 simp only [List.take_succ_cons,List.take_zero,List.drop_succ_cons,List.drop_zero]
 repeat (go_big_quiet_step ((exact Calls.regrown_of (ivltake_any _ _ (by assumption) (by assumption) _))))
 refine wpQuiet_nil (fun w2 hbw2 => ?_)
 have f00:=RowKit.Below.cells hbw2 (b:=w.heap.size) (o:=0) (v := .float .f64 (a)) (by first|assumption|simp [go_sem])
 have g00:=RowKit.Below.froz hbw2 (b:=w.heap.size) (o:=0) (v := .float .f64 (a)) (by first|assumption|simp [go_sem]) (by first|assumption|simp [go_sem])
 have f01:=RowKit.Below.cells hbw2 (b:=w.heap.size) (o:=1) (v := .float .f64 (b)) (by first|assumption|simp [go_sem])
 have g01:=RowKit.Below.froz hbw2 (b:=w.heap.size) (o:=1) (v := .float .f64 (b)) (by first|assumption|simp [go_sem]) (by first|assumption|simp [go_sem])
 have f10:=RowKit.Below.cells hbw2 (b:=w.heap.size+1) (o:=0) (v := .float .f64 (c)) (by first|assumption|simp [go_sem])
 have g10:=RowKit.Below.froz hbw2 (b:=w.heap.size+1) (o:=0) (v := .float .f64 (c)) (by first|assumption|simp [go_sem]) (by first|assumption|simp [go_sem])
 have f11:=RowKit.Below.cells hbw2 (b:=w.heap.size+1) (o:=1) (v := .float .f64 (d)) (by first|assumption|simp [go_sem])
 have g11:=RowKit.Below.froz hbw2 (b:=w.heap.size+1) (o:=1) (v := .float .f64 (d)) (by first|assumption|simp [go_sem]) (by first|assumption|simp [go_sem])
 have B2:=below_alloc (below_alloc (hbw2))
 have z2:w.heap.size+1<w2.heap.size:=Nat.lt_of_lt_of_le (by simp only [World.size_alloc];omega) hbw2.size
 clear k00 k01 k10 k11 hbw2
 iterate 6 go_step
 obtain ⟨w3,hw3⟩ : ∃ w3,w3=((((w2.setCell ⟨w.heap.size,0,none⟩ (.float .f64 (ofKey (tkLo a b)))).setCell ⟨w.heap.size,1,none⟩ (.float .f64 (ofKey (tkHi a b)))).setCell ⟨w.heap.size+1,0,none⟩ (.float .f64 (ofKey (tkLo c d)))).setCell ⟨w.heap.size+1,1,none⟩ (.float .f64 (ofKey (tkHi c d)))):=⟨_,rfl⟩
 rw [←hw3]
 have F00:w3.cell? ⟨w.heap.size,0,none⟩=some (.float .f64 (ofKey (tkLo a b))):=by rw [hw3];simp [go_sem,f00,f01,f10,f11]
 have H00:w3.frozen? ⟨w.heap.size,0,none⟩=false:=by rw [hw3];simp [go_sem,g00,g01,g10,g11]
 have F01:w3.cell? ⟨w.heap.size,1,none⟩=some (.float .f64 (ofKey (tkHi a b))):=by rw [hw3];simp [go_sem,f00,f01,f10,f11]
 have H01:w3.frozen? ⟨w.heap.size,1,none⟩=false:=by rw [hw3];simp [go_sem,g00,g01,g10,g11]
 have F10:w3.cell? ⟨w.heap.size+1,0,none⟩=some (.float .f64 (ofKey (tkLo c d))):=by rw [hw3];simp [go_sem,f00,f01,f10,f11]
 have H10:w3.frozen? ⟨w.heap.size+1,0,none⟩=false:=by rw [hw3];simp [go_sem,g00,g01,g10,g11]
 have F11:w3.cell? ⟨w.heap.size+1,1,none⟩=some (.float .f64 (ofKey (tkHi c d))):=by rw [hw3];simp [go_sem,f00,f01,f10,f11]
 have H11:w3.frozen? ⟨w.heap.size+1,1,none⟩=false:=by rw [hw3];simp [go_sem,g00,g01,g10,g11]
 have B3:Below w.heap.size w w3:=by rw [hw3];go_grown
 have z3:w.heap.size+1<w3.heap.size:=by rw [hw3];simpa only [World.size_setCell] using z2
 clear hw3 f00 f01 f10 f11 g00 g01 g10 g11 B2 z2
 go_wp2_with (go_at_call 50;refine (ivlno_any _ _ (by assumption) (by assumption) _).mono ?_;rintro e wn ⟨rfl,hbn⟩;replace H00:=RowKit.Below.froz hbn F00 H00;replace F00:=RowKit.Below.cells hbn F00;replace H01:=RowKit.Below.froz hbn F01 H01;replace F01:=RowKit.Below.cells hbn F01;replace H10:=RowKit.Below.froz hbn F10 H10;replace F10:=RowKit.Below.cells hbn F10;replace H11:=RowKit.Below.froz hbn F11 H11;replace F11:=RowKit.Below.cells hbn F11;replace B3:=below_step B3 B3.size hbn;replace z3:=Nat.lt_of_lt_of_le z3 hbn.size;clear hbn)
 all_goals have k00:=cell_regrown F00
 all_goals have k01:=cell_regrown F01
 all_goals have k10:=cell_regrown F10
 all_goals have k11:=cell_regrown F11
 all_goals have rM:=rg_min rA rC
 all_goals have rm:=rg_max rB rD
 all_goals refine wp_region_below (by kernel_rfl) (by kernel_rfl) ?_
 repeat (any_goals (first|go_big_quiet_step ((first|(go_at_call 50;exact Calls.regrown_of (ivlno_any _ _ (by assumption) (by assumption) _))|(go_at_call 90;exact quiet_same (ivlinf_any _))))|quiet_step ((first|(go_at_call 50;exact Calls.regrown_of (ivlno_any _ _ (by assumption) (by assumption) _))|(go_at_call 90;exact quiet_same (ivlinf_any _))))|(refine wpQuiet_step (fun K hK => ?_);go_simp;split<;>(refine hK _ ?_;clear hK K))))
 all_goals (refine wpQuiet_nil (fun w5 hbw5 => ?_))
 all_goals replace B3:=below_step B3 B3.size hbw5
 all_goals clear k00 k01 k10 k11
 all_goals go_wp2
 all_goals go_ret
 all_goals refine ⟨ret_b ?_,B3⟩
 all_goals rw [isB_2]
 all_goals simp only [decide_eq_true_eq,decide_eq_false_iff_not] at dA dC
 all_goals (first|rfl|(refine (decide_eq_true ?_).symm;omega)|(refine (decide_eq_false ?_).symm;omega)|(refine decide_eq_decide.2 ?_;omega)|(rw [Bool.eq_iff_iff];simp only [Bool.and_eq_true,Bool.or_eq_true,Bool.not_eq_true,Bool.not_eq_eq_eq_not,Bool.not_true,Bool.not_false,decide_eq_true_eq,decide_eq_false_iff_not,Bool.false_eq_true,true_iff,false_iff]<;>omega))
set_option maxHeartbeats 2000000 in
theorem ivlis_2d (a b c d:Nat) (ha:Wd a) (hb:Wd b) (hc:Wd c) (hd:Wd d) (dA:decide (tkLo a b=PI∧tkHi a b = -PI)=false) (dC:decide (tkLo c d=PI∧tkHi c d = -PI)=false) (w:World) :
  Calls Tryz.prog 58 #[.int .i64 2,.agg #[.float .f64 (a),.float .f64 (b)],.agg #[.float .f64 (c),.float .f64 (d)]] w fun e w'=>e = .returned (.bool (isB 2 (tkLo a b) (tkHi a b) (tkLo c d) (tkHi c d)))∧Below w.heap.size w w':=by
 obtain ⟨rA,rB,iA⟩:=tk_iv a b
 obtain ⟨rC,rD,iC⟩:=tk_iv c d
 have rA1:=rA.1;have rA2:=rA.2;have rB1:=rB.1;have rB2:=rB.2;have rC1:=rC.1;have rC2:=rC.2;have rD1:=rD.1;have rD2:=rD.2
 have vA:=tk_iv a b
 have vC:=tk_iv c d
 have he:=eqiv
 have hP:=PI_pos
 go_enter Tryz.func58,Tryz.ntmps58
 go_wp2
 have k00:=cell_regrown (w:=(World.alloc (World.alloc w (.cells #[.float .f64 (a),.float .f64 (b)] 39)) (.cells #[.float .f64 (c),.float .f64 (d)] 39))) (a:=⟨w.heap.size,0,none⟩) (v := .float .f64 (a)) (by simp [go_sem])
 have k01:=cell_regrown (w:=(World.alloc (World.alloc w (.cells #[.float .f64 (a),.float .f64 (b)] 39)) (.cells #[.float .f64 (c),.float .f64 (d)] 39))) (a:=⟨w.heap.size,1,none⟩) (v := .float .f64 (b)) (by simp [go_sem])
 have k10:=cell_regrown (w:=(World.alloc (World.alloc w (.cells #[.float .f64 (a),.float .f64 (b)] 39)) (.cells #[.float .f64 (c),.float .f64 (d)] 39))) (a:=⟨w.heap.size+1,0,none⟩) (v := .float .f64 (c)) (by simp [go_sem])
 have k11:=cell_regrown (w:=(World.alloc (World.alloc w (.cells #[.float .f64 (a),.float .f64 (b)] 39)) (.cells #[.float .f64 (c),.float .f64 (d)] 39))) (a:=⟨w.heap.size+1,1,none⟩) (v := .float .f64 (d)) (by simp [go_sem])
 refine wp_region_below_tail 4 (by kernel_rfl) (by kernel_rfl) ?_
 simp only [List.take_succ_cons,List.take_zero,List.drop_succ_cons,List.drop_zero]
 repeat (go_big_quiet_step ((exact Calls.regrown_of (ivltake_any _ _ (by assumption) (by assumption) _))))
 refine wpQuiet_nil (fun w2 hbw2 => ?_)
 have f00:=RowKit.Below.cells hbw2 (b:=w.heap.size) (o:=0) (v := .float .f64 (a)) (by first|assumption|simp [go_sem])
 have g00:=RowKit.Below.froz hbw2 (b:=w.heap.size) (o:=0) (v := .float .f64 (a)) (by first|assumption|simp [go_sem]) (by first|assumption|simp [go_sem])
 have f01:=RowKit.Below.cells hbw2 (b:=w.heap.size) (o:=1) (v := .float .f64 (b)) (by first|assumption|simp [go_sem])
 have g01:=RowKit.Below.froz hbw2 (b:=w.heap.size) (o:=1) (v := .float .f64 (b)) (by first|assumption|simp [go_sem]) (by first|assumption|simp [go_sem])
 have f10:=RowKit.Below.cells hbw2 (b:=w.heap.size+1) (o:=0) (v := .float .f64 (c)) (by first|assumption|simp [go_sem])
 have g10:=RowKit.Below.froz hbw2 (b:=w.heap.size+1) (o:=0) (v := .float .f64 (c)) (by first|assumption|simp [go_sem]) (by first|assumption|simp [go_sem])
 have f11:=RowKit.Below.cells hbw2 (b:=w.heap.size+1) (o:=1) (v := .float .f64 (d)) (by first|assumption|simp [go_sem])
 have g11:=RowKit.Below.froz hbw2 (b:=w.heap.size+1) (o:=1) (v := .float .f64 (d)) (by first|assumption|simp [go_sem]) (by first|assumption|simp [go_sem])
 have B2:=below_alloc (below_alloc (hbw2))
 have z2:w.heap.size+1<w2.heap.size:=Nat.lt_of_lt_of_le (by simp only [World.size_alloc];omega) hbw2.size
 clear k00 k01 k10 k11 hbw2
 iterate 6 go_step
 obtain ⟨w3,hw3⟩ : ∃ w3,w3=((((w2.setCell ⟨w.heap.size,0,none⟩ (.float .f64 (ofKey (tkLo a b)))).setCell ⟨w.heap.size,1,none⟩ (.float .f64 (ofKey (tkHi a b)))).setCell ⟨w.heap.size+1,0,none⟩ (.float .f64 (ofKey (tkLo c d)))).setCell ⟨w.heap.size+1,1,none⟩ (.float .f64 (ofKey (tkHi c d)))):=⟨_,rfl⟩
 rw [←hw3]
 have F00:w3.cell? ⟨w.heap.size,0,none⟩=some (.float .f64 (ofKey (tkLo a b))):=by rw [hw3];simp [go_sem,f00,f01,f10,f11]
 have H00:w3.frozen? ⟨w.heap.size,0,none⟩=false:=by rw [hw3];simp [go_sem,g00,g01,g10,g11]
 have F01:w3.cell? ⟨w.heap.size,1,none⟩=some (.float .f64 (ofKey (tkHi a b))):=by rw [hw3];simp [go_sem,f00,f01,f10,f11]
 have H01:w3.frozen? ⟨w.heap.size,1,none⟩=false:=by rw [hw3];simp [go_sem,g00,g01,g10,g11]
 have F10:w3.cell? ⟨w.heap.size+1,0,none⟩=some (.float .f64 (ofKey (tkLo c d))):=by rw [hw3];simp [go_sem,f00,f01,f10,f11]
 have H10:w3.frozen? ⟨w.heap.size+1,0,none⟩=false:=by rw [hw3];simp [go_sem,g00,g01,g10,g11]
 have F11:w3.cell? ⟨w.heap.size+1,1,none⟩=some (.float .f64 (ofKey (tkHi c d))):=by rw [hw3];simp [go_sem,f00,f01,f10,f11]
 have H11:w3.frozen? ⟨w.heap.size+1,1,none⟩=false:=by rw [hw3];simp [go_sem,g00,g01,g10,g11]
 have B3:Below w.heap.size w w3:=by rw [hw3];go_grown
 have z3:w.heap.size+1<w3.heap.size:=by rw [hw3];simpa only [World.size_setCell] using z2
 clear hw3 f00 f01 f10 f11 g00 g01 g10 g11 B2 z2
 go_wp2_with (go_at_call 50;refine (ivlno_any _ _ (by assumption) (by assumption) _).mono ?_;rintro e wn ⟨rfl,hbn⟩;replace H00:=RowKit.Below.froz hbn F00 H00;replace F00:=RowKit.Below.cells hbn F00;replace H01:=RowKit.Below.froz hbn F01 H01;replace F01:=RowKit.Below.cells hbn F01;replace H10:=RowKit.Below.froz hbn F10 H10;replace F10:=RowKit.Below.cells hbn F10;replace H11:=RowKit.Below.froz hbn F11 H11;replace F11:=RowKit.Below.cells hbn F11;replace B3:=below_step B3 B3.size hbn;replace z3:=Nat.lt_of_lt_of_le z3 hbn.size;clear hbn)
 all_goals have k00:=cell_regrown F00
 all_goals have k01:=cell_regrown F01
 all_goals have k10:=cell_regrown F10
 all_goals have k11:=cell_regrown F11
 all_goals have rM:=rg_min rA rC
 all_goals have rm:=rg_max rB rD
 all_goals refine wp_region_below (by kernel_rfl) (by kernel_rfl) ?_
 repeat (any_goals (first|go_big_quiet_step ((first|(go_at_call 50;exact Calls.regrown_of (ivlno_any _ _ (by assumption) (by assumption) _))|(go_at_call 90;exact quiet_same (ivlinf_any _))))|quiet_step ((first|(go_at_call 50;exact Calls.regrown_of (ivlno_any _ _ (by assumption) (by assumption) _))|(go_at_call 90;exact quiet_same (ivlinf_any _))))|(refine wpQuiet_step (fun K hK => ?_);go_simp;split<;>(refine hK _ ?_;clear hK K))))
 all_goals (refine wpQuiet_nil (fun w5 hbw5 => ?_))
 all_goals replace B3:=below_step B3 B3.size hbw5
 all_goals clear k00 k01 k10 k11
 all_goals go_wp2
 all_goals go_ret
 all_goals refine ⟨ret_b ?_,B3⟩
 all_goals rw [isB_2]
 all_goals simp only [decide_eq_true_eq,decide_eq_false_iff_not] at dA dC
 all_goals (first|rfl|(refine (decide_eq_true ?_).symm;omega)|(refine (decide_eq_false ?_).symm;omega)|(refine decide_eq_decide.2 ?_;omega)|(rw [Bool.eq_iff_iff];simp only [Bool.and_eq_true,Bool.or_eq_true,Bool.not_eq_true,Bool.not_eq_eq_eq_not,Bool.not_true,Bool.not_false,decide_eq_true_eq,decide_eq_false_iff_not,Bool.false_eq_true,true_iff,false_iff]<;>omega))
theorem ivlis_2 (a b c d:Nat) (ha:Wd a) (hb:Wd b) (hc:Wd c) (hd:Wd d) (w:World) :
  Calls Tryz.prog 58 #[.int .i64 2,.agg #[.float .f64 (a),.float .f64 (b)],.agg #[.float .f64 (c),.float .f64 (d)]] w fun e w'=>e = .returned (.bool (isB 2 (tkLo a b) (tkHi a b) (tkLo c d) (tkHi c d)))∧Below w.heap.size w w':=by
 cases dA:decide (tkLo a b=PI∧tkHi a b = -PI)<;>cases dC:decide (tkLo c d=PI∧tkHi c d = -PI)
 ·exact ivlis_2d a b c d ha hb hc hd dA dC w
 ·exact ivlis_2c a b c d ha hb hc hd dA dC w
 ·exact ivlis_2b a b c d ha hb hc hd dA dC w
 ·exact ivlis_2a a b c d ha hb hc hd dA dC w
set_option maxHeartbeats 2000000 in
theorem ivlis_3 (a b c d:Nat) (ha:Wd a) (hb:Wd b) (hc:Wd c) (hd:Wd d) (w:World) :
  Calls Tryz.prog 58 #[.int .i64 3,.agg #[.float .f64 (a),.float .f64 (b)],.agg #[.float .f64 (c),.float .f64 (d)]] w fun e w'=>e = .returned (.bool (isB 3 (tkLo a b) (tkHi a b) (tkLo c d) (tkHi c d)))∧Below w.heap.size w w':=by
 obtain ⟨rA,rB,iA⟩:=tk_iv a b
 obtain ⟨rC,rD,iC⟩:=tk_iv c d
 have rA1:=rA.1;have rA2:=rA.2;have rB1:=rB.1;have rB2:=rB.2;have rC1:=rC.1;have rC2:=rC.2;have rD1:=rD.1;have rD2:=rD.2
 have vA:=tk_iv a b
 have vC:=tk_iv c d
 have he:=eqiv
 have hP:=PI_pos
 go_enter Tryz.func58,Tryz.ntmps58
 go_wp2
 have k00:=cell_regrown (w:=(World.alloc (World.alloc w (.cells #[.float .f64 (a),.float .f64 (b)] 39)) (.cells #[.float .f64 (c),.float .f64 (d)] 39))) (a:=⟨w.heap.size,0,none⟩) (v := .float .f64 (a)) (by simp [go_sem])
 have k01:=cell_regrown (w:=(World.alloc (World.alloc w (.cells #[.float .f64 (a),.float .f64 (b)] 39)) (.cells #[.float .f64 (c),.float .f64 (d)] 39))) (a:=⟨w.heap.size,1,none⟩) (v := .float .f64 (b)) (by simp [go_sem])
 have k10:=cell_regrown (w:=(World.alloc (World.alloc w (.cells #[.float .f64 (a),.float .f64 (b)] 39)) (.cells #[.float .f64 (c),.float .f64 (d)] 39))) (a:=⟨w.heap.size+1,0,none⟩) (v := .float .f64 (c)) (by simp [go_sem])
 have k11:=cell_regrown (w:=(World.alloc (World.alloc w (.cells #[.float .f64 (a),.float .f64 (b)] 39)) (.cells #[.float .f64 (c),.float .f64 (d)] 39))) (a:=⟨w.heap.size+1,1,none⟩) (v := .float .f64 (d)) (by simp [go_sem])
 refine wp_region_below_tail 4 (by kernel_rfl) (by kernel_rfl) ?_
 simp only [List.take_succ_cons,List.take_zero,List.drop_succ_cons,List.drop_zero]
 repeat (go_big_quiet_step ((exact Calls.regrown_of (ivltake_any _ _ (by assumption) (by assumption) _))))
 refine wpQuiet_nil (fun w2 hbw2 => ?_)
 have f00:=RowKit.Below.cells hbw2 (b:=w.heap.size) (o:=0) (v := .float .f64 (a)) (by first|assumption|simp [go_sem])
 have g00:=RowKit.Below.froz hbw2 (b:=w.heap.size) (o:=0) (v := .float .f64 (a)) (by first|assumption|simp [go_sem]) (by first|assumption|simp [go_sem])
 have f01:=RowKit.Below.cells hbw2 (b:=w.heap.size) (o:=1) (v := .float .f64 (b)) (by first|assumption|simp [go_sem])
 have g01:=RowKit.Below.froz hbw2 (b:=w.heap.size) (o:=1) (v := .float .f64 (b)) (by first|assumption|simp [go_sem]) (by first|assumption|simp [go_sem])
 have f10:=RowKit.Below.cells hbw2 (b:=w.heap.size+1) (o:=0) (v := .float .f64 (c)) (by first|assumption|simp [go_sem])
 have g10:=RowKit.Below.froz hbw2 (b:=w.heap.size+1) (o:=0) (v := .float .f64 (c)) (by first|assumption|simp [go_sem]) (by first|assumption|simp [go_sem])
 have f11:=RowKit.Below.cells hbw2 (b:=w.heap.size+1) (o:=1) (v := .float .f64 (d)) (by first|assumption|simp [go_sem])
 have g11:=RowKit.Below.froz hbw2 (b:=w.heap.size+1) (o:=1) (v := .float .f64 (d)) (by first|assumption|simp [go_sem]) (by first|assumption|simp [go_sem])
 have B2:=below_alloc (below_alloc (hbw2))
 have z2:w.heap.size+1<w2.heap.size:=Nat.lt_of_lt_of_le (by simp only [World.size_alloc];omega) hbw2.size
 clear k00 k01 k10 k11 hbw2
 iterate 6 go_step
 obtain ⟨w3,hw3⟩ : ∃ w3,w3=((((w2.setCell ⟨w.heap.size,0,none⟩ (.float .f64 (ofKey (tkLo a b)))).setCell ⟨w.heap.size,1,none⟩ (.float .f64 (ofKey (tkHi a b)))).setCell ⟨w.heap.size+1,0,none⟩ (.float .f64 (ofKey (tkLo c d)))).setCell ⟨w.heap.size+1,1,none⟩ (.float .f64 (ofKey (tkHi c d)))):=⟨_,rfl⟩
 rw [←hw3]
 have F00:w3.cell? ⟨w.heap.size,0,none⟩=some (.float .f64 (ofKey (tkLo a b))):=by rw [hw3];simp [go_sem,f00,f01,f10,f11]
 have H00:w3.frozen? ⟨w.heap.size,0,none⟩=false:=by rw [hw3];simp [go_sem,g00,g01,g10,g11]
 have F01:w3.cell? ⟨w.heap.size,1,none⟩=some (.float .f64 (ofKey (tkHi a b))):=by rw [hw3];simp [go_sem,f00,f01,f10,f11]
 have H01:w3.frozen? ⟨w.heap.size,1,none⟩=false:=by rw [hw3];simp [go_sem,g00,g01,g10,g11]
 have F10:w3.cell? ⟨w.heap.size+1,0,none⟩=some (.float .f64 (ofKey (tkLo c d))):=by rw [hw3];simp [go_sem,f00,f01,f10,f11]
 have H10:w3.frozen? ⟨w.heap.size+1,0,none⟩=false:=by rw [hw3];simp [go_sem,g00,g01,g10,g11]
 have F11:w3.cell? ⟨w.heap.size+1,1,none⟩=some (.float .f64 (ofKey (tkHi c d))):=by rw [hw3];simp [go_sem,f00,f01,f10,f11]
 have H11:w3.frozen? ⟨w.heap.size+1,1,none⟩=false:=by rw [hw3];simp [go_sem,g00,g01,g10,g11]
 have B3:Below w.heap.size w w3:=by rw [hw3];go_grown
 have z3:w.heap.size+1<w3.heap.size:=by rw [hw3];simpa only [World.size_setCell] using z2
 clear hw3 f00 f01 f10 f11 g00 g01 g10 g11 B2 z2
 have rM:=(meet_rg vA vC).1
 have rm:=(meet_rg vA vC).2
 go_wp2_with (first|(go_at_call 60;refine (meet_canon _ _ _ _ vA vC _).mono ?_;rintro e wn ⟨rfl,hbn⟩;replace H00:=RowKit.Below.froz hbn F00 H00;replace F00:=RowKit.Below.cells hbn F00;replace H01:=RowKit.Below.froz hbn F01 H01;replace F01:=RowKit.Below.cells hbn F01;replace H10:=RowKit.Below.froz hbn F10 H10;replace F10:=RowKit.Below.cells hbn F10;replace H11:=RowKit.Below.froz hbn F11 H11;replace F11:=RowKit.Below.cells hbn F11;replace B3:=below_step B3 B3.size hbn;replace z3:=Nat.lt_of_lt_of_le z3 hbn.size;clear hbn)|(go_at_call 50;refine (ivlno_any _ _ (by assumption) (by assumption) _).mono ?_;rintro e wn ⟨rfl,hbn⟩;replace H00:=RowKit.Below.froz hbn F00 H00;replace F00:=RowKit.Below.cells hbn F00;replace H01:=RowKit.Below.froz hbn F01 H01;replace F01:=RowKit.Below.cells hbn F01;replace H10:=RowKit.Below.froz hbn F10 H10;replace F10:=RowKit.Below.cells hbn F10;replace H11:=RowKit.Below.froz hbn F11 H11;replace F11:=RowKit.Below.cells hbn F11;replace B3:=below_step B3 B3.size hbn;replace z3:=Nat.lt_of_lt_of_le z3 hbn.size;clear hbn))
 all_goals go_ret
 all_goals refine ⟨ret_b ?_,B3⟩
 all_goals rw [isB_3]
 all_goals unfold meetLo meetHi
 all_goals split
 all_goals (first|rfl|(refine (decide_eq_true ?_).symm;omega)|(refine (decide_eq_false ?_).symm;omega)|(refine decide_eq_decide.2 ?_;omega)|(rw [Bool.eq_iff_iff];simp only [Bool.and_eq_true,Bool.or_eq_true,Bool.not_eq_true,Bool.not_eq_eq_eq_not,Bool.not_true,Bool.not_false,decide_eq_true_eq,decide_eq_false_iff_not,Bool.false_eq_true,true_iff,false_iff]<;>omega))
set_option maxHeartbeats 2000000 in
theorem ivlis_4 (a b c d:Nat) (ha:Wd a) (hb:Wd b) (hc:Wd c) (hd:Wd d) (w:World) :
  Calls Tryz.prog 58 #[.int .i64 4,.agg #[.float .f64 (a),.float .f64 (b)],.agg #[.float .f64 (c),.float .f64 (d)]] w fun e w'=>e = .returned (.bool (isB 4 (tkLo a b) (tkHi a b) (tkLo c d) (tkHi c d)))∧Below w.heap.size w w':=by
 obtain ⟨rA,rB,iA⟩:=tk_iv a b
 obtain ⟨rC,rD,iC⟩:=tk_iv c d
 have rA1:=rA.1;have rA2:=rA.2;have rB1:=rB.1;have rB2:=rB.2;have rC1:=rC.1;have rC2:=rC.2;have rD1:=rD.1;have rD2:=rD.2
 have vA:=tk_iv a b
 have vC:=tk_iv c d
 have he:=eqiv
 have hP:=PI_pos
 go_enter Tryz.func58,Tryz.ntmps58
 go_wp2
 have k00:=cell_regrown (w:=(World.alloc (World.alloc w (.cells #[.float .f64 (a),.float .f64 (b)] 39)) (.cells #[.float .f64 (c),.float .f64 (d)] 39))) (a:=⟨w.heap.size,0,none⟩) (v := .float .f64 (a)) (by simp [go_sem])
 have k01:=cell_regrown (w:=(World.alloc (World.alloc w (.cells #[.float .f64 (a),.float .f64 (b)] 39)) (.cells #[.float .f64 (c),.float .f64 (d)] 39))) (a:=⟨w.heap.size,1,none⟩) (v := .float .f64 (b)) (by simp [go_sem])
 have k10:=cell_regrown (w:=(World.alloc (World.alloc w (.cells #[.float .f64 (a),.float .f64 (b)] 39)) (.cells #[.float .f64 (c),.float .f64 (d)] 39))) (a:=⟨w.heap.size+1,0,none⟩) (v := .float .f64 (c)) (by simp [go_sem])
 have k11:=cell_regrown (w:=(World.alloc (World.alloc w (.cells #[.float .f64 (a),.float .f64 (b)] 39)) (.cells #[.float .f64 (c),.float .f64 (d)] 39))) (a:=⟨w.heap.size+1,1,none⟩) (v := .float .f64 (d)) (by simp [go_sem])
 refine wp_region_below_tail 4 (by kernel_rfl) (by kernel_rfl) ?_
 simp only [List.take_succ_cons,List.take_zero,List.drop_succ_cons,List.drop_zero]
 repeat (go_big_quiet_step ((exact Calls.regrown_of (ivltake_any _ _ (by assumption) (by assumption) _))))
 refine wpQuiet_nil (fun w2 hbw2 => ?_)
 have f00:=RowKit.Below.cells hbw2 (b:=w.heap.size) (o:=0) (v := .float .f64 (a)) (by first|assumption|simp [go_sem])
 have g00:=RowKit.Below.froz hbw2 (b:=w.heap.size) (o:=0) (v := .float .f64 (a)) (by first|assumption|simp [go_sem]) (by first|assumption|simp [go_sem])
 have f01:=RowKit.Below.cells hbw2 (b:=w.heap.size) (o:=1) (v := .float .f64 (b)) (by first|assumption|simp [go_sem])
 have g01:=RowKit.Below.froz hbw2 (b:=w.heap.size) (o:=1) (v := .float .f64 (b)) (by first|assumption|simp [go_sem]) (by first|assumption|simp [go_sem])
 have f10:=RowKit.Below.cells hbw2 (b:=w.heap.size+1) (o:=0) (v := .float .f64 (c)) (by first|assumption|simp [go_sem])
 have g10:=RowKit.Below.froz hbw2 (b:=w.heap.size+1) (o:=0) (v := .float .f64 (c)) (by first|assumption|simp [go_sem]) (by first|assumption|simp [go_sem])
 have f11:=RowKit.Below.cells hbw2 (b:=w.heap.size+1) (o:=1) (v := .float .f64 (d)) (by first|assumption|simp [go_sem])
 have g11:=RowKit.Below.froz hbw2 (b:=w.heap.size+1) (o:=1) (v := .float .f64 (d)) (by first|assumption|simp [go_sem]) (by first|assumption|simp [go_sem])
 have B2:=below_alloc (below_alloc (hbw2))
 have z2:w.heap.size+1<w2.heap.size:=Nat.lt_of_lt_of_le (by simp only [World.size_alloc];omega) hbw2.size
 clear k00 k01 k10 k11 hbw2
 iterate 6 go_step
 obtain ⟨w3,hw3⟩ : ∃ w3,w3=((((w2.setCell ⟨w.heap.size,0,none⟩ (.float .f64 (ofKey (tkLo a b)))).setCell ⟨w.heap.size,1,none⟩ (.float .f64 (ofKey (tkHi a b)))).setCell ⟨w.heap.size+1,0,none⟩ (.float .f64 (ofKey (tkLo c d)))).setCell ⟨w.heap.size+1,1,none⟩ (.float .f64 (ofKey (tkHi c d)))):=⟨_,rfl⟩
 rw [←hw3]
 have F00:w3.cell? ⟨w.heap.size,0,none⟩=some (.float .f64 (ofKey (tkLo a b))):=by rw [hw3];simp [go_sem,f00,f01,f10,f11]
 have H00:w3.frozen? ⟨w.heap.size,0,none⟩=false:=by rw [hw3];simp [go_sem,g00,g01,g10,g11]
 have F01:w3.cell? ⟨w.heap.size,1,none⟩=some (.float .f64 (ofKey (tkHi a b))):=by rw [hw3];simp [go_sem,f00,f01,f10,f11]
 have H01:w3.frozen? ⟨w.heap.size,1,none⟩=false:=by rw [hw3];simp [go_sem,g00,g01,g10,g11]
 have F10:w3.cell? ⟨w.heap.size+1,0,none⟩=some (.float .f64 (ofKey (tkLo c d))):=by rw [hw3];simp [go_sem,f00,f01,f10,f11]
 have H10:w3.frozen? ⟨w.heap.size+1,0,none⟩=false:=by rw [hw3];simp [go_sem,g00,g01,g10,g11]
 have F11:w3.cell? ⟨w.heap.size+1,1,none⟩=some (.float .f64 (ofKey (tkHi c d))):=by rw [hw3];simp [go_sem,f00,f01,f10,f11]
 have H11:w3.frozen? ⟨w.heap.size+1,1,none⟩=false:=by rw [hw3];simp [go_sem,g00,g01,g10,g11]
 have B3:Below w.heap.size w w3:=by rw [hw3];go_grown
 have z3:w.heap.size+1<w3.heap.size:=by rw [hw3];simpa only [World.size_setCell] using z2
 clear hw3 f00 f01 f10 f11 g00 g01 g10 g11 B2 z2
 go_wp2_with (go_at_call 50;refine (ivlno_any _ _ (by assumption) (by assumption) _).mono ?_;rintro e wn ⟨rfl,hbn⟩;replace H00:=RowKit.Below.froz hbn F00 H00;replace F00:=RowKit.Below.cells hbn F00;replace H01:=RowKit.Below.froz hbn F01 H01;replace F01:=RowKit.Below.cells hbn F01;replace H10:=RowKit.Below.froz hbn F10 H10;replace F10:=RowKit.Below.cells hbn F10;replace H11:=RowKit.Below.froz hbn F11 H11;replace F11:=RowKit.Below.cells hbn F11;replace B3:=below_step B3 B3.size hbn;replace z3:=Nat.lt_of_lt_of_le z3 hbn.size;clear hbn)
 all_goals go_ret
 all_goals refine ⟨ret_b ?_,B3⟩
 all_goals rw [isB_4]
 all_goals (first|rfl|(refine (decide_eq_true ?_).symm;omega)|(refine (decide_eq_false ?_).symm;omega)|(refine decide_eq_decide.2 ?_;omega)|(rw [Bool.eq_iff_iff];simp only [Bool.and_eq_true,Bool.or_eq_true,Bool.not_eq_true,Bool.not_eq_eq_eq_not,Bool.not_true,Bool.not_false,decide_eq_true_eq,decide_eq_false_iff_not,Bool.false_eq_true,true_iff,false_iff]<;>omega))
set_option maxHeartbeats 2000000 in
theorem ivlis_5 (a b c d:Nat) (ha:Wd a) (hb:Wd b) (hc:Wd c) (hd:Wd d) (w:World) :
  Calls Tryz.prog 58 #[.int .i64 5,.agg #[.float .f64 (a),.float .f64 (b)],.agg #[.float .f64 (c),.float .f64 (d)]] w fun e w'=>e = .returned (.bool (isB 5 (tkLo a b) (tkHi a b) (tkLo c d) (tkHi c d)))∧Below w.heap.size w w':=by
 obtain ⟨rA,rB,iA⟩:=tk_iv a b
 obtain ⟨rC,rD,iC⟩:=tk_iv c d
 have rA1:=rA.1;have rA2:=rA.2;have rB1:=rB.1;have rB2:=rB.2;have rC1:=rC.1;have rC2:=rC.2;have rD1:=rD.1;have rD2:=rD.2
 have vA:=tk_iv a b
 have vC:=tk_iv c d
 have he:=eqiv
 have hP:=PI_pos
 go_enter Tryz.func58,Tryz.ntmps58
 go_wp2
 have k00:=cell_regrown (w:=(World.alloc (World.alloc w (.cells #[.float .f64 (a),.float .f64 (b)] 39)) (.cells #[.float .f64 (c),.float .f64 (d)] 39))) (a:=⟨w.heap.size,0,none⟩) (v := .float .f64 (a)) (by simp [go_sem])
 have k01:=cell_regrown (w:=(World.alloc (World.alloc w (.cells #[.float .f64 (a),.float .f64 (b)] 39)) (.cells #[.float .f64 (c),.float .f64 (d)] 39))) (a:=⟨w.heap.size,1,none⟩) (v := .float .f64 (b)) (by simp [go_sem])
 have k10:=cell_regrown (w:=(World.alloc (World.alloc w (.cells #[.float .f64 (a),.float .f64 (b)] 39)) (.cells #[.float .f64 (c),.float .f64 (d)] 39))) (a:=⟨w.heap.size+1,0,none⟩) (v := .float .f64 (c)) (by simp [go_sem])
 have k11:=cell_regrown (w:=(World.alloc (World.alloc w (.cells #[.float .f64 (a),.float .f64 (b)] 39)) (.cells #[.float .f64 (c),.float .f64 (d)] 39))) (a:=⟨w.heap.size+1,1,none⟩) (v := .float .f64 (d)) (by simp [go_sem])
 refine wp_region_below_tail 4 (by kernel_rfl) (by kernel_rfl) ?_
 simp only [List.take_succ_cons,List.take_zero,List.drop_succ_cons,List.drop_zero]
 repeat (go_big_quiet_step ((exact Calls.regrown_of (ivltake_any _ _ (by assumption) (by assumption) _))))
 refine wpQuiet_nil (fun w2 hbw2 => ?_)
 have f00:=RowKit.Below.cells hbw2 (b:=w.heap.size) (o:=0) (v := .float .f64 (a)) (by first|assumption|simp [go_sem])
 have g00:=RowKit.Below.froz hbw2 (b:=w.heap.size) (o:=0) (v := .float .f64 (a)) (by first|assumption|simp [go_sem]) (by first|assumption|simp [go_sem])
 have f01:=RowKit.Below.cells hbw2 (b:=w.heap.size) (o:=1) (v := .float .f64 (b)) (by first|assumption|simp [go_sem])
 have g01:=RowKit.Below.froz hbw2 (b:=w.heap.size) (o:=1) (v := .float .f64 (b)) (by first|assumption|simp [go_sem]) (by first|assumption|simp [go_sem])
 have f10:=RowKit.Below.cells hbw2 (b:=w.heap.size+1) (o:=0) (v := .float .f64 (c)) (by first|assumption|simp [go_sem])
 have g10:=RowKit.Below.froz hbw2 (b:=w.heap.size+1) (o:=0) (v := .float .f64 (c)) (by first|assumption|simp [go_sem]) (by first|assumption|simp [go_sem])
 have f11:=RowKit.Below.cells hbw2 (b:=w.heap.size+1) (o:=1) (v := .float .f64 (d)) (by first|assumption|simp [go_sem])
 have g11:=RowKit.Below.froz hbw2 (b:=w.heap.size+1) (o:=1) (v := .float .f64 (d)) (by first|assumption|simp [go_sem]) (by first|assumption|simp [go_sem])
 have B2:=below_alloc (below_alloc (hbw2))
 have z2:w.heap.size+1<w2.heap.size:=Nat.lt_of_lt_of_le (by simp only [World.size_alloc];omega) hbw2.size
 clear k00 k01 k10 k11 hbw2
 iterate 6 go_step
 obtain ⟨w3,hw3⟩ : ∃ w3,w3=((((w2.setCell ⟨w.heap.size,0,none⟩ (.float .f64 (ofKey (tkLo a b)))).setCell ⟨w.heap.size,1,none⟩ (.float .f64 (ofKey (tkHi a b)))).setCell ⟨w.heap.size+1,0,none⟩ (.float .f64 (ofKey (tkLo c d)))).setCell ⟨w.heap.size+1,1,none⟩ (.float .f64 (ofKey (tkHi c d)))):=⟨_,rfl⟩
 rw [←hw3]
 have F00:w3.cell? ⟨w.heap.size,0,none⟩=some (.float .f64 (ofKey (tkLo a b))):=by rw [hw3];simp [go_sem,f00,f01,f10,f11]
 have H00:w3.frozen? ⟨w.heap.size,0,none⟩=false:=by rw [hw3];simp [go_sem,g00,g01,g10,g11]
 have F01:w3.cell? ⟨w.heap.size,1,none⟩=some (.float .f64 (ofKey (tkHi a b))):=by rw [hw3];simp [go_sem,f00,f01,f10,f11]
 have H01:w3.frozen? ⟨w.heap.size,1,none⟩=false:=by rw [hw3];simp [go_sem,g00,g01,g10,g11]
 have F10:w3.cell? ⟨w.heap.size+1,0,none⟩=some (.float .f64 (ofKey (tkLo c d))):=by rw [hw3];simp [go_sem,f00,f01,f10,f11]
 have H10:w3.frozen? ⟨w.heap.size+1,0,none⟩=false:=by rw [hw3];simp [go_sem,g00,g01,g10,g11]
 have F11:w3.cell? ⟨w.heap.size+1,1,none⟩=some (.float .f64 (ofKey (tkHi c d))):=by rw [hw3];simp [go_sem,f00,f01,f10,f11]
 have H11:w3.frozen? ⟨w.heap.size+1,1,none⟩=false:=by rw [hw3];simp [go_sem,g00,g01,g10,g11]
 have B3:Below w.heap.size w w3:=by rw [hw3];go_grown
 have z3:w.heap.size+1<w3.heap.size:=by rw [hw3];simpa only [World.size_setCell] using z2
 clear hw3 f00 f01 f10 f11 g00 g01 g10 g11 B2 z2
 go_wp2_with (go_at_call 50;refine (ivlno_any _ _ (by assumption) (by assumption) _).mono ?_;rintro e wn ⟨rfl,hbn⟩;replace H00:=RowKit.Below.froz hbn F00 H00;replace F00:=RowKit.Below.cells hbn F00;replace H01:=RowKit.Below.froz hbn F01 H01;replace F01:=RowKit.Below.cells hbn F01;replace H10:=RowKit.Below.froz hbn F10 H10;replace F10:=RowKit.Below.cells hbn F10;replace H11:=RowKit.Below.froz hbn F11 H11;replace F11:=RowKit.Below.cells hbn F11;replace B3:=below_step B3 B3.size hbn;replace z3:=Nat.lt_of_lt_of_le z3 hbn.size;clear hbn)
 all_goals go_ret
 all_goals refine ⟨ret_b ?_,B3⟩
 all_goals rw [isB_5]
 all_goals (first|rfl|(refine (decide_eq_true ?_).symm;omega)|(refine (decide_eq_false ?_).symm;omega)|(refine decide_eq_decide.2 ?_;omega)|(rw [Bool.eq_iff_iff];simp only [Bool.and_eq_true,Bool.or_eq_true,Bool.not_eq_true,Bool.not_eq_eq_eq_not,Bool.not_true,Bool.not_false,decide_eq_true_eq,decide_eq_false_iff_not,Bool.false_eq_true,true_iff,false_iff]<;>omega))
set_option maxHeartbeats 2000000 in
theorem ivlis_n (r:Int) (hr:r<0∨5<r) (a b c d:Nat) (ha:Wd a) (hb:Wd b) (hc:Wd c) (hd:Wd d) (w:World) :
  Calls Tryz.prog 58 #[.int .i64 r,.agg #[.float .f64 (a),.float .f64 (b)],.agg #[.float .f64 (c),.float .f64 (d)]] w fun e w'=>e = .returned (.bool (isB r (tkLo a b) (tkHi a b) (tkLo c d) (tkHi c d)))∧Below w.heap.size w w':=by
 obtain ⟨rA,rB,iA⟩:=tk_iv a b
 obtain ⟨rC,rD,iC⟩:=tk_iv c d
 have rA1:=rA.1;have rA2:=rA.2;have rB1:=rB.1;have rB2:=rB.2;have rC1:=rC.1;have rC2:=rC.2;have rD1:=rD.1;have rD2:=rD.2
 have vA:=tk_iv a b
 have vC:=tk_iv c d
 have he:=eqiv
 have hP:=PI_pos
 go_enter Tryz.func58,Tryz.ntmps58
 go_wp2
 have k00:=cell_regrown (w:=(World.alloc (World.alloc w (.cells #[.float .f64 (a),.float .f64 (b)] 39)) (.cells #[.float .f64 (c),.float .f64 (d)] 39))) (a:=⟨w.heap.size,0,none⟩) (v := .float .f64 (a)) (by simp [go_sem])
 have k01:=cell_regrown (w:=(World.alloc (World.alloc w (.cells #[.float .f64 (a),.float .f64 (b)] 39)) (.cells #[.float .f64 (c),.float .f64 (d)] 39))) (a:=⟨w.heap.size,1,none⟩) (v := .float .f64 (b)) (by simp [go_sem])
 have k10:=cell_regrown (w:=(World.alloc (World.alloc w (.cells #[.float .f64 (a),.float .f64 (b)] 39)) (.cells #[.float .f64 (c),.float .f64 (d)] 39))) (a:=⟨w.heap.size+1,0,none⟩) (v := .float .f64 (c)) (by simp [go_sem])
 have k11:=cell_regrown (w:=(World.alloc (World.alloc w (.cells #[.float .f64 (a),.float .f64 (b)] 39)) (.cells #[.float .f64 (c),.float .f64 (d)] 39))) (a:=⟨w.heap.size+1,1,none⟩) (v := .float .f64 (d)) (by simp [go_sem])
 refine wp_region_below_tail 4 (by kernel_rfl) (by kernel_rfl) ?_
 simp only [List.take_succ_cons,List.take_zero,List.drop_succ_cons,List.drop_zero]
 repeat (go_big_quiet_step ((exact Calls.regrown_of (ivltake_any _ _ (by assumption) (by assumption) _))))
 refine wpQuiet_nil (fun w2 hbw2 => ?_)
 have f00:=RowKit.Below.cells hbw2 (b:=w.heap.size) (o:=0) (v := .float .f64 (a)) (by first|assumption|simp [go_sem])
 have g00:=RowKit.Below.froz hbw2 (b:=w.heap.size) (o:=0) (v := .float .f64 (a)) (by first|assumption|simp [go_sem]) (by first|assumption|simp [go_sem])
 have f01:=RowKit.Below.cells hbw2 (b:=w.heap.size) (o:=1) (v := .float .f64 (b)) (by first|assumption|simp [go_sem])
 have g01:=RowKit.Below.froz hbw2 (b:=w.heap.size) (o:=1) (v := .float .f64 (b)) (by first|assumption|simp [go_sem]) (by first|assumption|simp [go_sem])
 have f10:=RowKit.Below.cells hbw2 (b:=w.heap.size+1) (o:=0) (v := .float .f64 (c)) (by first|assumption|simp [go_sem])
 have g10:=RowKit.Below.froz hbw2 (b:=w.heap.size+1) (o:=0) (v := .float .f64 (c)) (by first|assumption|simp [go_sem]) (by first|assumption|simp [go_sem])
 have f11:=RowKit.Below.cells hbw2 (b:=w.heap.size+1) (o:=1) (v := .float .f64 (d)) (by first|assumption|simp [go_sem])
 have g11:=RowKit.Below.froz hbw2 (b:=w.heap.size+1) (o:=1) (v := .float .f64 (d)) (by first|assumption|simp [go_sem]) (by first|assumption|simp [go_sem])
 have B2:=below_alloc (below_alloc (hbw2))
 have z2:w.heap.size+1<w2.heap.size:=Nat.lt_of_lt_of_le (by simp only [World.size_alloc];omega) hbw2.size
 clear k00 k01 k10 k11 hbw2
 iterate 6 go_step
 obtain ⟨w3,hw3⟩ : ∃ w3,w3=((((w2.setCell ⟨w.heap.size,0,none⟩ (.float .f64 (ofKey (tkLo a b)))).setCell ⟨w.heap.size,1,none⟩ (.float .f64 (ofKey (tkHi a b)))).setCell ⟨w.heap.size+1,0,none⟩ (.float .f64 (ofKey (tkLo c d)))).setCell ⟨w.heap.size+1,1,none⟩ (.float .f64 (ofKey (tkHi c d)))):=⟨_,rfl⟩
 rw [←hw3]
 have F00:w3.cell? ⟨w.heap.size,0,none⟩=some (.float .f64 (ofKey (tkLo a b))):=by rw [hw3];simp [go_sem,f00,f01,f10,f11]
 have H00:w3.frozen? ⟨w.heap.size,0,none⟩=false:=by rw [hw3];simp [go_sem,g00,g01,g10,g11]
 have F01:w3.cell? ⟨w.heap.size,1,none⟩=some (.float .f64 (ofKey (tkHi a b))):=by rw [hw3];simp [go_sem,f00,f01,f10,f11]
 have H01:w3.frozen? ⟨w.heap.size,1,none⟩=false:=by rw [hw3];simp [go_sem,g00,g01,g10,g11]
 have F10:w3.cell? ⟨w.heap.size+1,0,none⟩=some (.float .f64 (ofKey (tkLo c d))):=by rw [hw3];simp [go_sem,f00,f01,f10,f11]
 have H10:w3.frozen? ⟨w.heap.size+1,0,none⟩=false:=by rw [hw3];simp [go_sem,g00,g01,g10,g11]
 have F11:w3.cell? ⟨w.heap.size+1,1,none⟩=some (.float .f64 (ofKey (tkHi c d))):=by rw [hw3];simp [go_sem,f00,f01,f10,f11]
 have H11:w3.frozen? ⟨w.heap.size+1,1,none⟩=false:=by rw [hw3];simp [go_sem,g00,g01,g10,g11]
 have B3:Below w.heap.size w w3:=by rw [hw3];go_grown
 have z3:w.heap.size+1<w3.heap.size:=by rw [hw3];simpa only [World.size_setCell] using z2
 clear hw3 f00 f01 f10 f11 g00 g01 g10 g11 B2 z2
 have h0:(r==0)=false:=by simp;omega
 have h1:(r==1)=false:=by simp;omega
 have h2:(r==2)=false:=by simp;omega
 have h3:(r==3)=false:=by simp;omega
 have h4:(r==4)=false:=by simp;omega
 have h5:(r==5)=false:=by simp;omega
 go_wp2_with (go_at_call 50;refine (ivlno_any _ _ (by assumption) (by assumption) _).mono ?_;rintro e wn ⟨rfl,hbn⟩;replace H00:=RowKit.Below.froz hbn F00 H00;replace F00:=RowKit.Below.cells hbn F00;replace H01:=RowKit.Below.froz hbn F01 H01;replace F01:=RowKit.Below.cells hbn F01;replace H10:=RowKit.Below.froz hbn F10 H10;replace F10:=RowKit.Below.cells hbn F10;replace H11:=RowKit.Below.froz hbn F11 H11;replace F11:=RowKit.Below.cells hbn F11;replace B3:=below_step B3 B3.size hbn;replace z3:=Nat.lt_of_lt_of_le z3 hbn.size;clear hbn)
 all_goals go_ret
 all_goals exact ⟨ret_b (isB_no hr _ _ _ _).symm,B3⟩
end Go.Proofs.YteephgpefhodnaaGreat
