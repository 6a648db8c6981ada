/- Contracts of the relations in the document's answer. -/
import Derived.Test.YteephgpefhodnaaGreatA5
namespace Go.Proofs.YteephgpefhodnaaGreat
open Go.RowKit Go.Sort Go.Fl
set_option linter.unusedSimpArgs false
set_option linter.unusedVariables false
set_option maxHeartbeats 2000000 in
theorem refis_0 (a b c d:Nat) (ha:Wd a) (hb:Wd b) (hc:Wd c) (hd:Wd d) (w:World) :
  Calls Tryz.prog 25 #[.int .i64 0,.agg #[.float .f64 (a),.float .f64 (b)],.agg #[.float .f64 (c),.float .f64 (d)]] w fun e w'=>e = .returned (.bool (isB 0 (tkLo a b) (tkHi a b) (tkLo c d) (tkHi c d)))∧Below w.heap.size w w':=by
 obtain ⟨rA,rB,iA⟩:=tk_iv a b
 obtain ⟨rC,rD,iC⟩:=tk_iv c d
 have rA1:=rA.1;have rA2:=rA.2;have rB1:=rB.1;have rB2:=rB.2;have rC1:=rC.1;have rC2:=rC.2;have rD1:=rD.1;have rD2:=rD.2
 have he:=eqiv
 have hP:=PI_pos
 go_enter Tryz.func25,Tryz.ntmps25
 go_wp2_with fail
 refine (reftaken_any _ _ ha hb _).mono ?_
 rintro e w1 ⟨rfl,hbw1⟩
 have f00x:=RowKit.Below.cells hbw1 (b:=w.heap.size) (o:=0) (v := .float .f64 (a)) (by simp [go_sem])
 have g00x:=RowKit.Below.froz hbw1 (b:=w.heap.size) (o:=0) (v := .float .f64 (a)) (by simp [go_sem]) (by simp [go_sem])
 have f01x:=RowKit.Below.cells hbw1 (b:=w.heap.size) (o:=1) (v := .float .f64 (b)) (by simp [go_sem])
 have g01x:=RowKit.Below.froz hbw1 (b:=w.heap.size) (o:=1) (v := .float .f64 (b)) (by simp [go_sem]) (by simp [go_sem])
 have f10x:=RowKit.Below.cells hbw1 (b:=w.heap.size+1) (o:=0) (v := .float .f64 (c)) (by simp [go_sem])
 have g10x:=RowKit.Below.froz hbw1 (b:=w.heap.size+1) (o:=0) (v := .float .f64 (c)) (by simp [go_sem]) (by simp [go_sem])
 have f11x:=RowKit.Below.cells hbw1 (b:=w.heap.size+1) (o:=1) (v := .float .f64 (d)) (by simp [go_sem])
 have g11x:=RowKit.Below.froz hbw1 (b:=w.heap.size+1) (o:=1) (v := .float .f64 (d)) (by simp [go_sem]) (by simp [go_sem])
 have B1:=below_alloc (below_alloc hbw1)
 have z1:w.heap.size+1<w1.heap.size:=Nat.lt_of_lt_of_le (by simp only [World.size_alloc];omega) hbw1.size
 clear hbw1
 go_wp2_with fail
 refine (reftaken_any _ _ hc hd _).mono ?_
 rintro e w2 ⟨rfl,hbw2⟩
 have f00:=RowKit.Below.cells hbw2 (b:=w.heap.size) (o:=0) (v := .float .f64 (ofKey (tkLo a b))) (by simp [go_sem,f00x,g00x,f01x,g01x,f10x,g10x,f11x,g11x])
 have g00:=RowKit.Below.froz hbw2 (b:=w.heap.size) (o:=0) (v := .float .f64 (ofKey (tkLo a b))) (by simp [go_sem,f00x,g00x,f01x,g01x,f10x,g10x,f11x,g11x]) (by simp [go_sem,f00x,g00x,f01x,g01x,f10x,g10x,f11x,g11x])
 have f01:=RowKit.Below.cells hbw2 (b:=w.heap.size) (o:=1) (v := .float .f64 (ofKey (tkHi a b))) (by simp [go_sem,f00x,g00x,f01x,g01x,f10x,g10x,f11x,g11x])
 have g01:=RowKit.Below.froz hbw2 (b:=w.heap.size) (o:=1) (v := .float .f64 (ofKey (tkHi a b))) (by simp [go_sem,f00x,g00x,f01x,g01x,f10x,g10x,f11x,g11x]) (by simp [go_sem,f00x,g00x,f01x,g01x,f10x,g10x,f11x,g11x])
 have f10:=RowKit.Below.cells hbw2 (b:=w.heap.size+1) (o:=0) (v := .float .f64 (c)) (by simp [go_sem,f00x,g00x,f01x,g01x,f10x,g10x,f11x,g11x])
 have g10:=RowKit.Below.froz hbw2 (b:=w.heap.size+1) (o:=0) (v := .float .f64 (c)) (by simp [go_sem,f00x,g00x,f01x,g01x,f10x,g10x,f11x,g11x]) (by simp [go_sem,f00x,g00x,f01x,g01x,f10x,g10x,f11x,g11x])
 have f11:=RowKit.Below.cells hbw2 (b:=w.heap.size+1) (o:=1) (v := .float .f64 (d)) (by simp [go_sem,f00x,g00x,f01x,g01x,f10x,g10x,f11x,g11x])
 have g11:=RowKit.Below.froz hbw2 (b:=w.heap.size+1) (o:=1) (v := .float .f64 (d)) (by simp [go_sem,f00x,g00x,f01x,g01x,f10x,g10x,f11x,g11x]) (by simp [go_sem,f00x,g00x,f01x,g01x,f10x,g10x,f11x,g11x])
 have B2:Below w.heap.size w w2:=below_step (w1:=(w1.setCell ⟨w.heap.size,0,none⟩ (.float .f64 (ofKey (tkLo a b)))).setCell ⟨w.heap.size,1,none⟩ (.float .f64 (ofKey (tkHi a b)))) (by go_grown) (by simp only [World.size_setCell];omega) hbw2
 have z2:w.heap.size+1<w2.heap.size:=Nat.lt_of_lt_of_le (by simp only [World.size_setCell];omega) hbw2.size
 clear hbw2 B1 z1 f00x g00x f01x g01x f10x g10x f11x g11x
 dsimp only
 iterate 4 go_step
 obtain ⟨w3,hw3⟩ : ∃ w3,w3=((w2.setCell ⟨w.heap.size+1,0,none⟩ (.float .f64 (ofKey (tkLo c d)))).setCell ⟨w.heap.size+1,1,none⟩ (.float .f64 (ofKey (tkHi c d)))):=⟨_,rfl⟩
 rw [←hw3]
 have F00:w3.cell? ⟨w.heap.size,0,none⟩=some (.float .f64 (ofKey (tkLo a b))):=by rw [hw3];simp [go_sem,f00,f01,f10,f11]
 have H00:w3.frozen? ⟨w.heap.size,0,none⟩=false:=by rw [hw3];simp [go_sem,g00,g01,g10,g11]
 have F01:w3.cell? ⟨w.heap.size,1,none⟩=some (.float .f64 (ofKey (tkHi a b))):=by rw [hw3];simp [go_sem,f00,f01,f10,f11]
 have H01:w3.frozen? ⟨w.heap.size,1,none⟩=false:=by rw [hw3];simp [go_sem,g00,g01,g10,g11]
 have F10:w3.cell? ⟨w.heap.size+1,0,none⟩=some (.float .f64 (ofKey (tkLo c d))):=by rw [hw3];simp [go_sem,f00,f01,f10,f11]
 have H10:w3.frozen? ⟨w.heap.size+1,0,none⟩=false:=by rw [hw3];simp [go_sem,g00,g01,g10,g11]
 have F11:w3.cell? ⟨w.heap.size+1,1,none⟩=some (.float .f64 (ofKey (tkHi c d))):=by rw [hw3];simp [go_sem,f00,f01,f10,f11]
 have H11:w3.frozen? ⟨w.heap.size+1,1,none⟩=false:=by rw [hw3];simp [go_sem,g00,g01,g10,g11]
 have B3:Below w.heap.size w w3:=by rw [hw3];go_grown
 have z3:w.heap.size+1<w3.heap.size:=by rw [hw3];simpa only [World.size_setCell] using z2
 clear hw3 f00 f01 f10 f11 g00 g01 g10 g11 B2 z2
 go_wp2_with (go_at_call 52;refine (refno_any _ _ (by assumption) (by assumption) _).mono ?_;rintro e wn ⟨rfl,hbn⟩;replace H00:=RowKit.Below.froz hbn F00 H00;replace F00:=RowKit.Below.cells hbn F00;replace H01:=RowKit.Below.froz hbn F01 H01;replace F01:=RowKit.Below.cells hbn F01;replace H10:=RowKit.Below.froz hbn F10 H10;replace F10:=RowKit.Below.cells hbn F10;replace H11:=RowKit.Below.froz hbn F11 H11;replace F11:=RowKit.Below.cells hbn F11;replace B3:=below_step B3 B3.size hbn;replace z3:=Nat.lt_of_lt_of_le z3 hbn.size;clear hbn)
 all_goals go_ret
 all_goals refine ⟨ret_b ?_,B3⟩
 all_goals rw [isB_0]
 all_goals (first|rfl|(refine (decide_eq_true ?_).symm;omega)|(refine (decide_eq_false ?_).symm;omega)|(refine decide_eq_decide.2 ?_;omega)|(rw [Bool.eq_iff_iff];simp only [Bool.and_eq_true,Bool.or_eq_true,Bool.not_eq_true,Bool.not_eq_eq_eq_not,Bool.not_true,Bool.not_false,decide_eq_true_eq,decide_eq_false_iff_not,Bool.false_eq_true,true_iff,false_iff]<;>omega))
set_option maxHeartbeats 2000000 in
theorem refis_1 (a b c d:Nat) (ha:Wd a) (hb:Wd b) (hc:Wd c) (hd:Wd d) (w:World) :
  Calls Tryz.prog 25 #[.int .i64 1,.agg #[.float .f64 (a),.float .f64 (b)],.agg #[.float .f64 (c),.float .f64 (d)]] w fun e w'=>e = .returned (.bool (isB 1 (tkLo a b) (tkHi a b) (tkLo c d) (tkHi c d)))∧Below w.heap.size w w':=by
 obtain ⟨rA,rB,iA⟩:=tk_iv a b
 obtain ⟨rC,rD,iC⟩:=tk_iv c d
 have rA1:=rA.1;have rA2:=rA.2;have rB1:=rB.1;have rB2:=rB.2;have rC1:=rC.1;have rC2:=rC.2;have rD1:=rD.1;have rD2:=rD.2
 have he:=eqiv
 have hP:=PI_pos
 go_enter Tryz.func25,Tryz.ntmps25
 go_wp2_with fail
 refine (reftaken_any _ _ ha hb _).mono ?_
 rintro e w1 ⟨rfl,hbw1⟩
 have f00x:=RowKit.Below.cells hbw1 (b:=w.heap.size) (o:=0) (v := .float .f64 (a)) (by simp [go_sem])
 have g00x:=RowKit.Below.froz hbw1 (b:=w.heap.size) (o:=0) (v := .float .f64 (a)) (by simp [go_sem]) (by simp [go_sem])
 have f01x:=RowKit.Below.cells hbw1 (b:=w.heap.size) (o:=1) (v := .float .f64 (b)) (by simp [go_sem])
 have g01x:=RowKit.Below.froz hbw1 (b:=w.heap.size) (o:=1) (v := .float .f64 (b)) (by simp [go_sem]) (by simp [go_sem])
 have f10x:=RowKit.Below.cells hbw1 (b:=w.heap.size+1) (o:=0) (v := .float .f64 (c)) (by simp [go_sem])
 have g10x:=RowKit.Below.froz hbw1 (b:=w.heap.size+1) (o:=0) (v := .float .f64 (c)) (by simp [go_sem]) (by simp [go_sem])
 have f11x:=RowKit.Below.cells hbw1 (b:=w.heap.size+1) (o:=1) (v := .float .f64 (d)) (by simp [go_sem])
 have g11x:=RowKit.Below.froz hbw1 (b:=w.heap.size+1) (o:=1) (v := .float .f64 (d)) (by simp [go_sem]) (by simp [go_sem])
 have B1:=below_alloc (below_alloc hbw1)
 have z1:w.heap.size+1<w1.heap.size:=Nat.lt_of_lt_of_le (by simp only [World.size_alloc];omega) hbw1.size
 clear hbw1
 go_wp2_with fail
 refine (reftaken_any _ _ hc hd _).mono ?_
 rintro e w2 ⟨rfl,hbw2⟩
 have f00:=RowKit.Below.cells hbw2 (b:=w.heap.size) (o:=0) (v := .float .f64 (ofKey (tkLo a b))) (by simp [go_sem,f00x,g00x,f01x,g01x,f10x,g10x,f11x,g11x])
 have g00:=RowKit.Below.froz hbw2 (b:=w.heap.size) (o:=0) (v := .float .f64 (ofKey (tkLo a b))) (by simp [go_sem,f00x,g00x,f01x,g01x,f10x,g10x,f11x,g11x]) (by simp [go_sem,f00x,g00x,f01x,g01x,f10x,g10x,f11x,g11x])
 have f01:=RowKit.Below.cells hbw2 (b:=w.heap.size) (o:=1) (v := .float .f64 (ofKey (tkHi a b))) (by simp [go_sem,f00x,g00x,f01x,g01x,f10x,g10x,f11x,g11x])
 have g01:=RowKit.Below.froz hbw2 (b:=w.heap.size) (o:=1) (v := .float .f64 (ofKey (tkHi a b))) (by simp [go_sem,f00x,g00x,f01x,g01x,f10x,g10x,f11x,g11x]) (by simp [go_sem,f00x,g00x,f01x,g01x,f10x,g10x,f11x,g11x])
 have f10:=RowKit.Below.cells hbw2 (b:=w.heap.size+1) (o:=0) (v := .float .f64 (c)) (by simp [go_sem,f00x,g00x,f01x,g01x,f10x,g10x,f11x,g11x])
 have g10:=RowKit.Below.froz hbw2 (b:=w.heap.size+1) (o:=0) (v := .float .f64 (c)) (by simp [go_sem,f00x,g00x,f01x,g01x,f10x,g10x,f11x,g11x]) (by simp [go_sem,f00x,g00x,f01x,g01x,f10x,g10x,f11x,g11x])
 have f11:=RowKit.Below.cells hbw2 (b:=w.heap.size+1) (o:=1) (v := .float .f64 (d)) (by simp [go_sem,f00x,g00x,f01x,g01x,f10x,g10x,f11x,g11x])
 have g11:=RowKit.Below.froz hbw2 (b:=w.heap.size+1) (o:=1) (v := .float .f64 (d)) (by simp [go_sem,f00x,g00x,f01x,g01x,f10x,g10x,f11x,g11x]) (by simp [go_sem,f00x,g00x,f01x,g01x,f10x,g10x,f11x,g11x])
 have B2:Below w.heap.size w w2:=below_step (w1:=(w1.setCell ⟨w.heap.size,0,none⟩ (.float .f64 (ofKey (tkLo a b)))).setCell ⟨w.heap.size,1,none⟩ (.float .f64 (ofKey (tkHi a b)))) (by go_grown) (by simp only [World.size_setCell];omega) hbw2
 have z2:w.heap.size+1<w2.heap.size:=Nat.lt_of_lt_of_le (by simp only [World.size_setCell];omega) hbw2.size
 clear hbw2 B1 z1 f00x g00x f01x g01x f10x g10x f11x g11x
 dsimp only
 iterate 4 go_step
 obtain ⟨w3,hw3⟩ : ∃ w3,w3=((w2.setCell ⟨w.heap.size+1,0,none⟩ (.float .f64 (ofKey (tkLo c d)))).setCell ⟨w.heap.size+1,1,none⟩ (.float .f64 (ofKey (tkHi c d)))):=⟨_,rfl⟩
 rw [←hw3]
 have F00:w3.cell? ⟨w.heap.size,0,none⟩=some (.float .f64 (ofKey (tkLo a b))):=by rw [hw3];simp [go_sem,f00,f01,f10,f11]
 have H00:w3.frozen? ⟨w.heap.size,0,none⟩=false:=by rw [hw3];simp [go_sem,g00,g01,g10,g11]
 have F01:w3.cell? ⟨w.heap.size,1,none⟩=some (.float .f64 (ofKey (tkHi a b))):=by rw [hw3];simp [go_sem,f00,f01,f10,f11]
 have H01:w3.frozen? ⟨w.heap.size,1,none⟩=false:=by rw [hw3];simp [go_sem,g00,g01,g10,g11]
 have F10:w3.cell? ⟨w.heap.size+1,0,none⟩=some (.float .f64 (ofKey (tkLo c d))):=by rw [hw3];simp [go_sem,f00,f01,f10,f11]
 have H10:w3.frozen? ⟨w.heap.size+1,0,none⟩=false:=by rw [hw3];simp [go_sem,g00,g01,g10,g11]
 have F11:w3.cell? ⟨w.heap.size+1,1,none⟩=some (.float .f64 (ofKey (tkHi c d))):=by rw [hw3];simp [go_sem,f00,f01,f10,f11]
 have H11:w3.frozen? ⟨w.heap.size+1,1,none⟩=false:=by rw [hw3];simp [go_sem,g00,g01,g10,g11]
 have B3:Below w.heap.size w w3:=by rw [hw3];go_grown
 have z3:w.heap.size+1<w3.heap.size:=by rw [hw3];simpa only [World.size_setCell] using z2
 clear hw3 f00 f01 f10 f11 g00 g01 g10 g11 B2 z2
 go_wp2_with (go_at_call 52;refine (refno_any _ _ (by assumption) (by assumption) _).mono ?_;rintro e wn ⟨rfl,hbn⟩;replace H00:=RowKit.Below.froz hbn F00 H00;replace F00:=RowKit.Below.cells hbn F00;replace H01:=RowKit.Below.froz hbn F01 H01;replace F01:=RowKit.Below.cells hbn F01;replace H10:=RowKit.Below.froz hbn F10 H10;replace F10:=RowKit.Below.cells hbn F10;replace H11:=RowKit.Below.froz hbn F11 H11;replace F11:=RowKit.Below.cells hbn F11;replace B3:=below_step B3 B3.size hbn;replace z3:=Nat.lt_of_lt_of_le z3 hbn.size;clear hbn)
 all_goals go_ret
 all_goals refine ⟨ret_b ?_,B3⟩
 all_goals rw [isB_1]
 all_goals (first|rfl|(refine (decide_eq_true ?_).symm;omega)|(refine (decide_eq_false ?_).symm;omega)|(refine decide_eq_decide.2 ?_;omega)|(rw [Bool.eq_iff_iff];simp only [Bool.and_eq_true,Bool.or_eq_true,Bool.not_eq_true,Bool.not_eq_eq_eq_not,Bool.not_true,Bool.not_false,decide_eq_true_eq,decide_eq_false_iff_not,Bool.false_eq_true,true_iff,false_iff]<;>omega))
set_option maxHeartbeats 2000000 in
theorem refis_3 (a b c d:Nat) (ha:Wd a) (hb:Wd b) (hc:Wd c) (hd:Wd d) (w:World) :
  Calls Tryz.prog 25 #[.int .i64 3,.agg #[.float .f64 (a),.float .f64 (b)],.agg #[.float .f64 (c),.float .f64 (d)]] w fun e w'=>e = .returned (.bool (isB 3 (tkLo a b) (tkHi a b) (tkLo c d) (tkHi c d)))∧Below w.heap.size w w':=by
 obtain ⟨rA,rB,iA⟩:=tk_iv a b
 obtain ⟨rC,rD,iC⟩:=tk_iv c d
 have rA1:=rA.1;have rA2:=rA.2;have rB1:=rB.1;have rB2:=rB.2;have rC1:=rC.1;have rC2:=rC.2;have rD1:=rD.1;have rD2:=rD.2
 have he:=eqiv
 have hP:=PI_pos
 go_enter Tryz.func25,Tryz.ntmps25
 go_wp2_with fail
 refine (reftaken_any _ _ ha hb _).mono ?_
 rintro e w1 ⟨rfl,hbw1⟩
 have f00x:=RowKit.Below.cells hbw1 (b:=w.heap.size) (o:=0) (v := .float .f64 (a)) (by simp [go_sem])
 have g00x:=RowKit.Below.froz hbw1 (b:=w.heap.size) (o:=0) (v := .float .f64 (a)) (by simp [go_sem]) (by simp [go_sem])
 have f01x:=RowKit.Below.cells hbw1 (b:=w.heap.size) (o:=1) (v := .float .f64 (b)) (by simp [go_sem])
 have g01x:=RowKit.Below.froz hbw1 (b:=w.heap.size) (o:=1) (v := .float .f64 (b)) (by simp [go_sem]) (by simp [go_sem])
 have f10x:=RowKit.Below.cells hbw1 (b:=w.heap.size+1) (o:=0) (v := .float .f64 (c)) (by simp [go_sem])
 have g10x:=RowKit.Below.froz hbw1 (b:=w.heap.size+1) (o:=0) (v := .float .f64 (c)) (by simp [go_sem]) (by simp [go_sem])
 have f11x:=RowKit.Below.cells hbw1 (b:=w.heap.size+1) (o:=1) (v := .float .f64 (d)) (by simp [go_sem])
 have g11x:=RowKit.Below.froz hbw1 (b:=w.heap.size+1) (o:=1) (v := .float .f64 (d)) (by simp [go_sem]) (by simp [go_sem])
 have B1:=below_alloc (below_alloc hbw1)
 have z1:w.heap.size+1<w1.heap.size:=Nat.lt_of_lt_of_le (by simp only [World.size_alloc];omega) hbw1.size
 clear hbw1
 go_wp2_with fail
 refine (reftaken_any _ _ hc hd _).mono ?_
 rintro e w2 ⟨rfl,hbw2⟩
 have f00:=RowKit.Below.cells hbw2 (b:=w.heap.size) (o:=0) (v := .float .f64 (ofKey (tkLo a b))) (by simp [go_sem,f00x,g00x,f01x,g01x,f10x,g10x,f11x,g11x])
 have g00:=RowKit.Below.froz hbw2 (b:=w.heap.size) (o:=0) (v := .float .f64 (ofKey (tkLo a b))) (by simp [go_sem,f00x,g00x,f01x,g01x,f10x,g10x,f11x,g11x]) (by simp [go_sem,f00x,g00x,f01x,g01x,f10x,g10x,f11x,g11x])
 have f01:=RowKit.Below.cells hbw2 (b:=w.heap.size) (o:=1) (v := .float .f64 (ofKey (tkHi a b))) (by simp [go_sem,f00x,g00x,f01x,g01x,f10x,g10x,f11x,g11x])
 have g01:=RowKit.Below.froz hbw2 (b:=w.heap.size) (o:=1) (v := .float .f64 (ofKey (tkHi a b))) (by simp [go_sem,f00x,g00x,f01x,g01x,f10x,g10x,f11x,g11x]) (by simp [go_sem,f00x,g00x,f01x,g01x,f10x,g10x,f11x,g11x])
 have f10:=RowKit.Below.cells hbw2 (b:=w.heap.size+1) (o:=0) (v := .float .f64 (c)) (by simp [go_sem,f00x,g00x,f01x,g01x,f10x,g10x,f11x,g11x])
 have g10:=RowKit.Below.froz hbw2 (b:=w.heap.size+1) (o:=0) (v := .float .f64 (c)) (by simp [go_sem,f00x,g00x,f01x,g01x,f10x,g10x,f11x,g11x]) (by simp [go_sem,f00x,g00x,f01x,g01x,f10x,g10x,f11x,g11x])
 have f11:=RowKit.Below.cells hbw2 (b:=w.heap.size+1) (o:=1) (v := .float .f64 (d)) (by simp [go_sem,f00x,g00x,f01x,g01x,f10x,g10x,f11x,g11x])
 have g11:=RowKit.Below.froz hbw2 (b:=w.heap.size+1) (o:=1) (v := .float .f64 (d)) (by simp [go_sem,f00x,g00x,f01x,g01x,f10x,g10x,f11x,g11x]) (by simp [go_sem,f00x,g00x,f01x,g01x,f10x,g10x,f11x,g11x])
 have B2:Below w.heap.size w w2:=below_step (w1:=(w1.setCell ⟨w.heap.size,0,none⟩ (.float .f64 (ofKey (tkLo a b)))).setCell ⟨w.heap.size,1,none⟩ (.float .f64 (ofKey (tkHi a b)))) (by go_grown) (by simp only [World.size_setCell];omega) hbw2
 have z2:w.heap.size+1<w2.heap.size:=Nat.lt_of_lt_of_le (by simp only [World.size_setCell];omega) hbw2.size
 clear hbw2 B1 z1 f00x g00x f01x g01x f10x g10x f11x g11x
 dsimp only
 iterate 4 go_step
 obtain ⟨w3,hw3⟩ : ∃ w3,w3=((w2.setCell ⟨w.heap.size+1,0,none⟩ (.float .f64 (ofKey (tkLo c d)))).setCell ⟨w.heap.size+1,1,none⟩ (.float .f64 (ofKey (tkHi c d)))):=⟨_,rfl⟩
 rw [←hw3]
 have F00:w3.cell? ⟨w.heap.size,0,none⟩=some (.float .f64 (ofKey (tkLo a b))):=by rw [hw3];simp [go_sem,f00,f01,f10,f11]
 have H00:w3.frozen? ⟨w.heap.size,0,none⟩=false:=by rw [hw3];simp [go_sem,g00,g01,g10,g11]
 have F01:w3.cell? ⟨w.heap.size,1,none⟩=some (.float .f64 (ofKey (tkHi a b))):=by rw [hw3];simp [go_sem,f00,f01,f10,f11]
 have H01:w3.frozen? ⟨w.heap.size,1,none⟩=false:=by rw [hw3];simp [go_sem,g00,g01,g10,g11]
 have F10:w3.cell? ⟨w.heap.size+1,0,none⟩=some (.float .f64 (ofKey (tkLo c d))):=by rw [hw3];simp [go_sem,f00,f01,f10,f11]
 have H10:w3.frozen? ⟨w.heap.size+1,0,none⟩=false:=by rw [hw3];simp [go_sem,g00,g01,g10,g11]
 have F11:w3.cell? ⟨w.heap.size+1,1,none⟩=some (.float .f64 (ofKey (tkHi c d))):=by rw [hw3];simp [go_sem,f00,f01,f10,f11]
 have H11:w3.frozen? ⟨w.heap.size+1,1,none⟩=false:=by rw [hw3];simp [go_sem,g00,g01,g10,g11]
 have B3:Below w.heap.size w w3:=by rw [hw3];go_grown
 have z3:w.heap.size+1<w3.heap.size:=by rw [hw3];simpa only [World.size_setCell] using z2
 clear hw3 f00 f01 f10 f11 g00 g01 g10 g11 B2 z2
 go_wp2_with (go_at_call 52;refine (refno_any _ _ (by assumption) (by assumption) _).mono ?_;rintro e wn ⟨rfl,hbn⟩;replace H00:=RowKit.Below.froz hbn F00 H00;replace F00:=RowKit.Below.cells hbn F00;replace H01:=RowKit.Below.froz hbn F01 H01;replace F01:=RowKit.Below.cells hbn F01;replace H10:=RowKit.Below.froz hbn F10 H10;replace F10:=RowKit.Below.cells hbn F10;replace H11:=RowKit.Below.froz hbn F11 H11;replace F11:=RowKit.Below.cells hbn F11;replace B3:=below_step B3 B3.size hbn;replace z3:=Nat.lt_of_lt_of_le z3 hbn.size;clear hbn)
 all_goals go_ret
 all_goals refine ⟨ret_b ?_,B3⟩
 all_goals rw [isB_3]
 all_goals (first|rfl|(refine (decide_eq_true ?_).symm;omega)|(refine (decide_eq_false ?_).symm;omega)|(refine decide_eq_decide.2 ?_;omega)|(rw [Bool.eq_iff_iff];simp only [Bool.and_eq_true,Bool.or_eq_true,Bool.not_eq_true,Bool.not_eq_eq_eq_not,Bool.not_true,Bool.not_false,decide_eq_true_eq,decide_eq_false_iff_not,Bool.false_eq_true,true_iff,false_iff]<;>omega))
set_option maxHeartbeats 2000000 in
theorem refis_4 (a b c d:Nat) (ha:Wd a) (hb:Wd b) (hc:Wd c) (hd:Wd d) (w:World) :
  Calls Tryz.prog 25 #[.int .i64 4,.agg #[.float .f64 (a),.float .f64 (b)],.agg #[.float .f64 (c),.float .f64 (d)]] w fun e w'=>e = .returned (.bool (isB 4 (tkLo a b) (tkHi a b) (tkLo c d) (tkHi c d)))∧Below w.heap.size w w':=by
 obtain ⟨rA,rB,iA⟩:=tk_iv a b
 obtain ⟨rC,rD,iC⟩:=tk_iv c d
 have rA1:=rA.1;have rA2:=rA.2;have rB1:=rB.1;have rB2:=rB.2;have rC1:=rC.1;have rC2:=rC.2;have rD1:=rD.1;have rD2:=rD.2
 have he:=eqiv
 have hP:=PI_pos
 go_enter Tryz.func25,Tryz.ntmps25
 go_wp2_with fail
 refine (reftaken_any _ _ ha hb _).mono ?_
 rintro e w1 ⟨rfl,hbw1⟩
 have f00x:=RowKit.Below.cells hbw1 (b:=w.heap.size) (o:=0) (v := .float .f64 (a)) (by simp [go_sem])
 have g00x:=RowKit.Below.froz hbw1 (b:=w.heap.size) (o:=0) (v := .float .f64 (a)) (by simp [go_sem]) (by simp [go_sem])
 have f01x:=RowKit.Below.cells hbw1 (b:=w.heap.size) (o:=1) (v := .float .f64 (b)) (by simp [go_sem])
 have g01x:=RowKit.Below.froz hbw1 (b:=w.heap.size) (o:=1) (v := .float .f64 (b)) (by simp [go_sem]) (by simp [go_sem])
 have f10x:=RowKit.Below.cells hbw1 (b:=w.heap.size+1) (o:=0) (v := .float .f64 (c)) (by simp [go_sem])
 have g10x:=RowKit.Below.froz hbw1 (b:=w.heap.size+1) (o:=0) (v := .float .f64 (c)) (by simp [go_sem]) (by simp [go_sem])
 have f11x:=RowKit.Below.cells hbw1 (b:=w.heap.size+1) (o:=1) (v := .float .f64 (d)) (by simp [go_sem])
 have g11x:=RowKit.Below.froz hbw1 (b:=w.heap.size+1) (o:=1) (v := .float .f64 (d)) (by simp [go_sem]) (by simp [go_sem])
 have B1:=below_alloc (below_alloc hbw1)
 have z1:w.heap.size+1<w1.heap.size:=Nat.lt_of_lt_of_le (by simp only [World.size_alloc];omega) hbw1.size
 clear hbw1
 go_wp2_with fail
 refine (reftaken_any _ _ hc hd _).mono ?_
 rintro e w2 ⟨rfl,hbw2⟩
 have f00:=RowKit.Below.cells hbw2 (b:=w.heap.size) (o:=0) (v := .float .f64 (ofKey (tkLo a b))) (by simp [go_sem,f00x,g00x,f01x,g01x,f10x,g10x,f11x,g11x])
 have g00:=RowKit.Below.froz hbw2 (b:=w.heap.size) (o:=0) (v := .float .f64 (ofKey (tkLo a b))) (by simp [go_sem,f00x,g00x,f01x,g01x,f10x,g10x,f11x,g11x]) (by simp [go_sem,f00x,g00x,f01x,g01x,f10x,g10x,f11x,g11x])
 have f01:=RowKit.Below.cells hbw2 (b:=w.heap.size) (o:=1) (v := .float .f64 (ofKey (tkHi a b))) (by simp [go_sem,f00x,g00x,f01x,g01x,f10x,g10x,f11x,g11x])
 have g01:=RowKit.Below.froz hbw2 (b:=w.heap.size) (o:=1) (v := .float .f64 (ofKey (tkHi a b))) (by simp [go_sem,f00x,g00x,f01x,g01x,f10x,g10x,f11x,g11x]) (by simp [go_sem,f00x,g00x,f01x,g01x,f10x,g10x,f11x,g11x])
 have f10:=RowKit.Below.cells hbw2 (b:=w.heap.size+1) (o:=0) (v := .float .f64 (c)) (by simp [go_sem,f00x,g00x,f01x,g01x,f10x,g10x,f11x,g11x])
 have g10:=RowKit.Below.froz hbw2 (b:=w.heap.size+1) (o:=0) (v := .float .f64 (c)) (by simp [go_sem,f00x,g00x,f01x,g01x,f10x,g10x,f11x,g11x]) (by simp [go_sem,f00x,g00x,f01x,g01x,f10x,g10x,f11x,g11x])
 have f11:=RowKit.Below.cells hbw2 (b:=w.heap.size+1) (o:=1) (v := .float .f64 (d)) (by simp [go_sem,f00x,g00x,f01x,g01x,f10x,g10x,f11x,g11x])
 have g11:=RowKit.Below.froz hbw2 (b:=w.heap.size+1) (o:=1) (v := .float .f64 (d)) (by simp [go_sem,f00x,g00x,f01x,g01x,f10x,g10x,f11x,g11x]) (by simp [go_sem,f00x,g00x,f01x,g01x,f10x,g10x,f11x,g11x])
 have B2:Below w.heap.size w w2:=below_step (w1:=(w1.setCell ⟨w.heap.size,0,none⟩ (.float .f64 (ofKey (tkLo a b)))).setCell ⟨w.heap.size,1,none⟩ (.float .f64 (ofKey (tkHi a b)))) (by go_grown) (by simp only [World.size_setCell];omega) hbw2
 have z2:w.heap.size+1<w2.heap.size:=Nat.lt_of_lt_of_le (by simp only [World.size_setCell];omega) hbw2.size
 clear hbw2 B1 z1 f00x g00x f01x g01x f10x g10x f11x g11x
 dsimp only
 iterate 4 go_step
 obtain ⟨w3,hw3⟩ : ∃ w3,w3=((w2.setCell ⟨w.heap.size+1,0,none⟩ (.float .f64 (ofKey (tkLo c d)))).setCell ⟨w.heap.size+1,1,none⟩ (.float .f64 (ofKey (tkHi c d)))):=⟨_,rfl⟩
 rw [←hw3]
 have F00:w3.cell? ⟨w.heap.size,0,none⟩=some (.float .f64 (ofKey (tkLo a b))):=by rw [hw3];simp [go_sem,f00,f01,f10,f11]
 have H00:w3.frozen? ⟨w.heap.size,0,none⟩=false:=by rw [hw3];simp [go_sem,g00,g01,g10,g11]
 have F01:w3.cell? ⟨w.heap.size,1,none⟩=some (.float .f64 (ofKey (tkHi a b))):=by rw [hw3];simp [go_sem,f00,f01,f10,f11]
 have H01:w3.frozen? ⟨w.heap.size,1,none⟩=false:=by rw [hw3];simp [go_sem,g00,g01,g10,g11]
 have F10:w3.cell? ⟨w.heap.size+1,0,none⟩=some (.float .f64 (ofKey (tkLo c d))):=by rw [hw3];simp [go_sem,f00,f01,f10,f11]
 have H10:w3.frozen? ⟨w.heap.size+1,0,none⟩=false:=by rw [hw3];simp [go_sem,g00,g01,g10,g11]
 have F11:w3.cell? ⟨w.heap.size+1,1,none⟩=some (.float .f64 (ofKey (tkHi c d))):=by rw [hw3];simp [go_sem,f00,f01,f10,f11]
 have H11:w3.frozen? ⟨w.heap.size+1,1,none⟩=false:=by rw [hw3];simp [go_sem,g00,g01,g10,g11]
 have B3:Below w.heap.size w w3:=by rw [hw3];go_grown
 have z3:w.heap.size+1<w3.heap.size:=by rw [hw3];simpa only [World.size_setCell] using z2
 clear hw3 f00 f01 f10 f11 g00 g01 g10 g11 B2 z2
 go_wp2_with (go_at_call 52;refine (refno_any _ _ (by assumption) (by assumption) _).mono ?_;rintro e wn ⟨rfl,hbn⟩;replace H00:=RowKit.Below.froz hbn F00 H00;replace F00:=RowKit.Below.cells hbn F00;replace H01:=RowKit.Below.froz hbn F01 H01;replace F01:=RowKit.Below.cells hbn F01;replace H10:=RowKit.Below.froz hbn F10 H10;replace F10:=RowKit.Below.cells hbn F10;replace H11:=RowKit.Below.froz hbn F11 H11;replace F11:=RowKit.Below.cells hbn F11;replace B3:=below_step B3 B3.size hbn;replace z3:=Nat.lt_of_lt_of_le z3 hbn.size;clear hbn)
 all_goals go_ret
 all_goals refine ⟨ret_b ?_,B3⟩
 all_goals rw [isB_4]
 all_goals (first|rfl|(refine (decide_eq_true ?_).symm;omega)|(refine (decide_eq_false ?_).symm;omega)|(refine decide_eq_decide.2 ?_;omega)|(rw [Bool.eq_iff_iff];simp only [Bool.and_eq_true,Bool.or_eq_true,Bool.not_eq_true,Bool.not_eq_eq_eq_not,Bool.not_true,Bool.not_false,decide_eq_true_eq,decide_eq_false_iff_not,Bool.false_eq_true,true_iff,false_iff]<;>omega))
set_option maxHeartbeats 2000000 in
theorem refis_5 (a b c d:Nat) (ha:Wd a) (hb:Wd b) (hc:Wd c) (hd:Wd d) (w:World) :
  Calls Tryz.prog 25 #[.int .i64 5,.agg #[.float .f64 (a),.float .f64 (b)],.agg #[.float .f64 (c),.float .f64 (d)]] w fun e w'=>e = .returned (.bool (isB 5 (tkLo a b) (tkHi a b) (tkLo c d) (tkHi c d)))∧Below w.heap.size w w':=by
 obtain ⟨rA,rB,iA⟩:=tk_iv a b
 obtain ⟨rC,rD,iC⟩:=tk_iv c d
 have rA1:=rA.1;have rA2:=rA.2;have rB1:=rB.1;have rB2:=rB.2;have rC1:=rC.1;have rC2:=rC.2;have rD1:=rD.1;have rD2:=rD.2
 have he:=eqiv
 have hP:=PI_pos
 go_enter Tryz.func25,Tryz.ntmps25
 go_wp2_with fail
 refine (reftaken_any _ _ ha hb _).mono ?_
 rintro e w1 ⟨rfl,hbw1⟩
 have f00x:=RowKit.Below.cells hbw1 (b:=w.heap.size) (o:=0) (v := .float .f64 (a)) (by simp [go_sem])
 have g00x:=RowKit.Below.froz hbw1 (b:=w.heap.size) (o:=0) (v := .float .f64 (a)) (by simp [go_sem]) (by simp [go_sem])
 have f01x:=RowKit.Below.cells hbw1 (b:=w.heap.size) (o:=1) (v := .float .f64 (b)) (by simp [go_sem])
 have g01x:=RowKit.Below.froz hbw1 (b:=w.heap.size) (o:=1) (v := .float .f64 (b)) (by simp [go_sem]) (by simp [go_sem])
 have f10x:=RowKit.Below.cells hbw1 (b:=w.heap.size+1) (o:=0) (v := .float .f64 (c)) (by simp [go_sem])
 have g10x:=RowKit.Below.froz hbw1 (b:=w.heap.size+1) (o:=0) (v := .float .f64 (c)) (by simp [go_sem]) (by simp [go_sem])
 have f11x:=RowKit.Below.cells hbw1 (b:=w.heap.size+1) (o:=1) (v := .float .f64 (d)) (by simp [go_sem])
 have g11x:=RowKit.Below.froz hbw1 (b:=w.heap.size+1) (o:=1) (v := .float .f64 (d)) (by simp [go_sem]) (by simp [go_sem])
 have B1:=below_alloc (below_alloc hbw1)
 have z1:w.heap.size+1<w1.heap.size:=Nat.lt_of_lt_of_le (by simp only [World.size_alloc];omega) hbw1.size
 clear hbw1
 go_wp2_with fail
 refine (reftaken_any _ _ hc hd _).mono ?_
 rintro e w2 ⟨rfl,hbw2⟩
 have f00:=RowKit.Below.cells hbw2 (b:=w.heap.size) (o:=0) (v := .float .f64 (ofKey (tkLo a b))) (by simp [go_sem,f00x,g00x,f01x,g01x,f10x,g10x,f11x,g11x])
 have g00:=RowKit.Below.froz hbw2 (b:=w.heap.size) (o:=0) (v := .float .f64 (ofKey (tkLo a b))) (by simp [go_sem,f00x,g00x,f01x,g01x,f10x,g10x,f11x,g11x]) (by simp [go_sem,f00x,g00x,f01x,g01x,f10x,g10x,f11x,g11x])
 have f01:=RowKit.Below.cells hbw2 (b:=w.heap.size) (o:=1) (v := .float .f64 (ofKey (tkHi a b))) (by simp [go_sem,f00x,g00x,f01x,g01x,f10x,g10x,f11x,g11x])
 have g01:=RowKit.Below.froz hbw2 (b:=w.heap.size) (o:=1) (v := .float .f64 (ofKey (tkHi a b))) (by simp [go_sem,f00x,g00x,f01x,g01x,f10x,g10x,f11x,g11x]) (by simp [go_sem,f00x,g00x,f01x,g01x,f10x,g10x,f11x,g11x])
 have f10:=RowKit.Below.cells hbw2 (b:=w.heap.size+1) (o:=0) (v := .float .f64 (c)) (by simp [go_sem,f00x,g00x,f01x,g01x,f10x,g10x,f11x,g11x])
 have g10:=RowKit.Below.froz hbw2 (b:=w.heap.size+1) (o:=0) (v := .float .f64 (c)) (by simp [go_sem,f00x,g00x,f01x,g01x,f10x,g10x,f11x,g11x]) (by simp [go_sem,f00x,g00x,f01x,g01x,f10x,g10x,f11x,g11x])
 have f11:=RowKit.Below.cells hbw2 (b:=w.heap.size+1) (o:=1) (v := .float .f64 (d)) (by simp [go_sem,f00x,g00x,f01x,g01x,f10x,g10x,f11x,g11x])
 have g11:=RowKit.Below.froz hbw2 (b:=w.heap.size+1) (o:=1) (v := .float .f64 (d)) (by simp [go_sem,f00x,g00x,f01x,g01x,f10x,g10x,f11x,g11x]) (by simp [go_sem,f00x,g00x,f01x,g01x,f10x,g10x,f11x,g11x])
 have B2:Below w.heap.size w w2:=below_step (w1:=(w1.setCell ⟨w.heap.size,0,none⟩ (.float .f64 (ofKey (tkLo a b)))).setCell ⟨w.heap.size,1,none⟩ (.float .f64 (ofKey (tkHi a b)))) (by go_grown) (by simp only [World.size_setCell];omega) hbw2
 have z2:w.heap.size+1<w2.heap.size:=Nat.lt_of_lt_of_le (by simp only [World.size_setCell];omega) hbw2.size
 clear hbw2 B1 z1 f00x g00x f01x g01x f10x g10x f11x g11x
 dsimp only
 iterate 4 go_step
 obtain ⟨w3,hw3⟩ : ∃ w3,w3=((w2.setCell ⟨w.heap.size+1,0,none⟩ (.float .f64 (ofKey (tkLo c d)))).setCell ⟨w.heap.size+1,1,none⟩ (.float .f64 (ofKey (tkHi c d)))):=⟨_,rfl⟩
 rw [←hw3]
 have F00:w3.cell? ⟨w.heap.size,0,none⟩=some (.float .f64 (ofKey (tkLo a b))):=by rw [hw3];simp [go_sem,f00,f01,f10,f11]
 have H00:w3.frozen? ⟨w.heap.size,0,none⟩=false:=by rw [hw3];simp [go_sem,g00,g01,g10,g11]
 have F01:w3.cell? ⟨w.heap.size,1,none⟩=some (.float .f64 (ofKey (tkHi a b))):=by rw [hw3];simp [go_sem,f00,f01,f10,f11]
 have H01:w3.frozen? ⟨w.heap.size,1,none⟩=false:=by rw [hw3];simp [go_sem,g00,g01,g10,g11]
 have F10:w3.cell? ⟨w.heap.size+1,0,none⟩=some (.float .f64 (ofKey (tkLo c d))):=by rw [hw3];simp [go_sem,f00,f01,f10,f11]
 have H10:w3.frozen? ⟨w.heap.size+1,0,none⟩=false:=by rw [hw3];simp [go_sem,g00,g01,g10,g11]
 have F11:w3.cell? ⟨w.heap.size+1,1,none⟩=some (.float .f64 (ofKey (tkHi c d))):=by rw [hw3];simp [go_sem,f00,f01,f10,f11]
 have H11:w3.frozen? ⟨w.heap.size+1,1,none⟩=false:=by rw [hw3];simp [go_sem,g00,g01,g10,g11]
 have B3:Below w.heap.size w w3:=by rw [hw3];go_grown
 have z3:w.heap.size+1<w3.heap.size:=by rw [hw3];simpa only [World.size_setCell] using z2
 clear hw3 f00 f01 f10 f11 g00 g01 g10 g11 B2 z2
 go_wp2_with (go_at_call 52;refine (refno_any _ _ (by assumption) (by assumption) _).mono ?_;rintro e wn ⟨rfl,hbn⟩;replace H00:=RowKit.Below.froz hbn F00 H00;replace F00:=RowKit.Below.cells hbn F00;replace H01:=RowKit.Below.froz hbn F01 H01;replace F01:=RowKit.Below.cells hbn F01;replace H10:=RowKit.Below.froz hbn F10 H10;replace F10:=RowKit.Below.cells hbn F10;replace H11:=RowKit.Below.froz hbn F11 H11;replace F11:=RowKit.Below.cells hbn F11;replace B3:=below_step B3 B3.size hbn;replace z3:=Nat.lt_of_lt_of_le z3 hbn.size;clear hbn)
 all_goals go_ret
 all_goals refine ⟨ret_b ?_,B3⟩
 all_goals rw [isB_5]
 all_goals (first|rfl|(refine (decide_eq_true ?_).symm;omega)|(refine (decide_eq_false ?_).symm;omega)|(refine decide_eq_decide.2 ?_;omega)|(rw [Bool.eq_iff_iff];simp only [Bool.and_eq_true,Bool.or_eq_true,Bool.not_eq_true,Bool.not_eq_eq_eq_not,Bool.not_true,Bool.not_false,decide_eq_true_eq,decide_eq_false_iff_not,Bool.false_eq_true,true_iff,false_iff]<;>omega))
set_option maxHeartbeats 2000000 in
theorem refis_2a (a b c d:Nat) (ha:Wd a) (hb:Wd b) (hc:Wd c) (hd:Wd d) (dA:decide (tkHi a b<tkLo a b)=true) (dC:decide (tkHi c d<tkLo c d)=true) (w:World) :
  Calls Tryz.prog 25 #[.int .i64 2,.agg #[.float .f64 (a),.float .f64 (b)],.agg #[.float .f64 (c),.float .f64 (d)]] w fun e w'=>e = .returned (.bool (isB 2 (tkLo a b) (tkHi a b) (tkLo c d) (tkHi c d)))∧Below w.heap.size w w':=by
 obtain ⟨rA,rB,iA⟩:=tk_iv a b
 obtain ⟨rC,rD,iC⟩:=tk_iv c d
 have rA1:=rA.1;have rA2:=rA.2;have rB1:=rB.1;have rB2:=rB.2;have rC1:=rC.1;have rC2:=rC.2;have rD1:=rD.1;have rD2:=rD.2
 have he:=eqiv
 have hP:=PI_pos
 go_enter Tryz.func25,Tryz.ntmps25
 go_wp2_with fail
 refine (reftaken_any _ _ ha hb _).mono ?_
 rintro e w1 ⟨rfl,hbw1⟩
 have f00x:=RowKit.Below.cells hbw1 (b:=w.heap.size) (o:=0) (v := .float .f64 (a)) (by simp [go_sem])
 have g00x:=RowKit.Below.froz hbw1 (b:=w.heap.size) (o:=0) (v := .float .f64 (a)) (by simp [go_sem]) (by simp [go_sem])
 have f01x:=RowKit.Below.cells hbw1 (b:=w.heap.size) (o:=1) (v := .float .f64 (b)) (by simp [go_sem])
 have g01x:=RowKit.Below.froz hbw1 (b:=w.heap.size) (o:=1) (v := .float .f64 (b)) (by simp [go_sem]) (by simp [go_sem])
 have f10x:=RowKit.Below.cells hbw1 (b:=w.heap.size+1) (o:=0) (v := .float .f64 (c)) (by simp [go_sem])
 have g10x:=RowKit.Below.froz hbw1 (b:=w.heap.size+1) (o:=0) (v := .float .f64 (c)) (by simp [go_sem]) (by simp [go_sem])
 have f11x:=RowKit.Below.cells hbw1 (b:=w.heap.size+1) (o:=1) (v := .float .f64 (d)) (by simp [go_sem])
 have g11x:=RowKit.Below.froz hbw1 (b:=w.heap.size+1) (o:=1) (v := .float .f64 (d)) (by simp [go_sem]) (by simp [go_sem])
 have B1:=below_alloc (below_alloc hbw1)
 have z1:w.heap.size+1<w1.heap.size:=Nat.lt_of_lt_of_le (by simp only [World.size_alloc];omega) hbw1.size
 clear hbw1
 go_wp2_with fail
 refine (reftaken_any _ _ hc hd _).mono ?_
 rintro e w2 ⟨rfl,hbw2⟩
 have f00:=RowKit.Below.cells hbw2 (b:=w.heap.size) (o:=0) (v := .float .f64 (ofKey (tkLo a b))) (by simp [go_sem,f00x,g00x,f01x,g01x,f10x,g10x,f11x,g11x])
 have g00:=RowKit.Below.froz hbw2 (b:=w.heap.size) (o:=0) (v := .float .f64 (ofKey (tkLo a b))) (by simp [go_sem,f00x,g00x,f01x,g01x,f10x,g10x,f11x,g11x]) (by simp [go_sem,f00x,g00x,f01x,g01x,f10x,g10x,f11x,g11x])
 have f01:=RowKit.Below.cells hbw2 (b:=w.heap.size) (o:=1) (v := .float .f64 (ofKey (tkHi a b))) (by simp [go_sem,f00x,g00x,f01x,g01x,f10x,g10x,f11x,g11x])
 have g01:=RowKit.Below.froz hbw2 (b:=w.heap.size) (o:=1) (v := .float .f64 (ofKey (tkHi a b))) (by simp [go_sem,f00x,g00x,f01x,g01x,f10x,g10x,f11x,g11x]) (by simp [go_sem,f00x,g00x,f01x,g01x,f10x,g10x,f11x,g11x])
 have f10:=RowKit.Below.cells hbw2 (b:=w.heap.size+1) (o:=0) (v := .float .f64 (c)) (by simp [go_sem,f00x,g00x,f01x,g01x,f10x,g10x,f11x,g11x])
 have g10:=RowKit.Below.froz hbw2 (b:=w.heap.size+1) (o:=0) (v := .float .f64 (c)) (by simp [go_sem,f00x,g00x,f01x,g01x,f10x,g10x,f11x,g11x]) (by simp [go_sem,f00x,g00x,f01x,g01x,f10x,g10x,f11x,g11x])
 have f11:=RowKit.Below.cells hbw2 (b:=w.heap.size+1) (o:=1) (v := .float .f64 (d)) (by simp [go_sem,f00x,g00x,f01x,g01x,f10x,g10x,f11x,g11x])
 have g11:=RowKit.Below.froz hbw2 (b:=w.heap.size+1) (o:=1) (v := .float .f64 (d)) (by simp [go_sem,f00x,g00x,f01x,g01x,f10x,g10x,f11x,g11x]) (by simp [go_sem,f00x,g00x,f01x,g01x,f10x,g10x,f11x,g11x])
 have B2:Below w.heap.size w w2:=below_step (w1:=(w1.setCell ⟨w.heap.size,0,none⟩ (.float .f64 (ofKey (tkLo a b)))).setCell ⟨w.heap.size,1,none⟩ (.float .f64 (ofKey (tkHi a b)))) (by go_grown) (by simp only [World.size_setCell];omega) hbw2
 have z2:w.heap.size+1<w2.heap.size:=Nat.lt_of_lt_of_le (by simp only [World.size_setCell];omega) hbw2.size
 clear hbw2 B1 z1 f00x g00x f01x g01x f10x g10x f11x g11x
 dsimp only
 iterate 4 go_step
 obtain ⟨w3,hw3⟩ : ∃ w3,w3=((w2.setCell ⟨w.heap.size+1,0,none⟩ (.float .f64 (ofKey (tkLo c d)))).setCell ⟨w.heap.size+1,1,none⟩ (.float .f64 (ofKey (tkHi c d)))):=⟨_,rfl⟩
 rw [←hw3]
 have F00:w3.cell? ⟨w.heap.size,0,none⟩=some (.float .f64 (ofKey (tkLo a b))):=by rw [hw3];simp [go_sem,f00,f01,f10,f11]
 have H00:w3.frozen? ⟨w.heap.size,0,none⟩=false:=by rw [hw3];simp [go_sem,g00,g01,g10,g11]
 have F01:w3.cell? ⟨w.heap.size,1,none⟩=some (.float .f64 (ofKey (tkHi a b))):=by rw [hw3];simp [go_sem,f00,f01,f10,f11]
 have H01:w3.frozen? ⟨w.heap.size,1,none⟩=false:=by rw [hw3];simp [go_sem,g00,g01,g10,g11]
 have F10:w3.cell? ⟨w.heap.size+1,0,none⟩=some (.float .f64 (ofKey (tkLo c d))):=by rw [hw3];simp [go_sem,f00,f01,f10,f11]
 have H10:w3.frozen? ⟨w.heap.size+1,0,none⟩=false:=by rw [hw3];simp [go_sem,g00,g01,g10,g11]
 have F11:w3.cell? ⟨w.heap.size+1,1,none⟩=some (.float .f64 (ofKey (tkHi c d))):=by rw [hw3];simp [go_sem,f00,f01,f10,f11]
 have H11:w3.frozen? ⟨w.heap.size+1,1,none⟩=false:=by rw [hw3];simp [go_sem,g00,g01,g10,g11]
 have B3:Below w.heap.size w w3:=by rw [hw3];go_grown
 have z3:w.heap.size+1<w3.heap.size:=by rw [hw3];simpa only [World.size_setCell] using z2
 clear hw3 f00 f01 f10 f11 g00 g01 g10 g11 B2 z2
 go_wp2_with (go_at_call 52;refine (refno_any _ _ (by assumption) (by assumption) _).mono ?_;rintro e wn ⟨rfl,hbn⟩;replace H00:=RowKit.Below.froz hbn F00 H00;replace F00:=RowKit.Below.cells hbn F00;replace H01:=RowKit.Below.froz hbn F01 H01;replace F01:=RowKit.Below.cells hbn F01;replace H10:=RowKit.Below.froz hbn F10 H10;replace F10:=RowKit.Below.cells hbn F10;replace H11:=RowKit.Below.froz hbn F11 H11;replace F11:=RowKit.Below.cells hbn F11;replace B3:=below_step B3 B3.size hbn;replace z3:=Nat.lt_of_lt_of_le z3 hbn.size;clear hbn)
 all_goals have k00:=cell_regrown F00
 all_goals have k01:=cell_regrown F01
 all_goals have k10:=cell_regrown F10
 all_goals have k11:=cell_regrown F11
 all_goals refine wp_region_below (by kernel_rfl) (by kernel_rfl) ?_
 repeat (any_goals (first|go_big_quiet_step ((first|(go_at_call 59;exact quiet_same (refinf_any _))))|quiet_step ((first|(go_at_call 59;exact quiet_same (refinf_any _))))|(refine wpQuiet_step (fun K hK => ?_);go_simp;split<;>(refine hK _ ?_;clear hK K))))
 all_goals (refine wpQuiet_nil (fun w5 hbw5 => ?_))
 all_goals replace B3:=below_step B3 B3.size hbw5
 all_goals clear k00 k01 k10 k11
 all_goals go_wp2
 all_goals go_ret
 all_goals refine ⟨ret_b ?_,B3⟩
 all_goals rw [isB_2]
 all_goals simp only [decide_eq_true_eq,decide_eq_false_iff_not] at dA dC
 all_goals (first|rfl|(refine (decide_eq_true ?_).symm;omega)|(refine (decide_eq_false ?_).symm;omega)|(refine decide_eq_decide.2 ?_;omega)|(rw [Bool.eq_iff_iff];simp only [Bool.and_eq_true,Bool.or_eq_true,Bool.not_eq_true,Bool.not_eq_eq_eq_not,Bool.not_true,Bool.not_false,decide_eq_true_eq,decide_eq_false_iff_not,Bool.false_eq_true,true_iff,false_iff]<;>omega))
set_option maxHeartbeats 2000000 in
theorem refis_2b (a b c d:Nat) (ha:Wd a) (hb:Wd b) (hc:Wd c) (hd:Wd d) (dA:decide (tkHi a b<tkLo a b)=true) (dC:decide (tkHi c d<tkLo c d)=false) (w:World) :
  Calls Tryz.prog 25 #[.int .i64 2,.agg #[.float .f64 (a),.float .f64 (b)],.agg #[.float .f64 (c),.float .f64 (d)]] w fun e w'=>e = .returned (.bool (isB 2 (tkLo a b) (tkHi a b) (tkLo c d) (tkHi c d)))∧Below w.heap.size w w':=by
 obtain ⟨rA,rB,iA⟩:=tk_iv a b
 obtain ⟨rC,rD,iC⟩:=tk_iv c d
 have rA1:=rA.1;have rA2:=rA.2;have rB1:=rB.1;have rB2:=rB.2;have rC1:=rC.1;have rC2:=rC.2;have rD1:=rD.1;have rD2:=rD.2
 have he:=eqiv
 have hP:=PI_pos
 go_enter Tryz.func25,Tryz.ntmps25
 go_wp2_with fail
 refine (reftaken_any _ _ ha hb _).mono ?_
 rintro e w1 ⟨rfl,hbw1⟩
 have f00x:=RowKit.Below.cells hbw1 (b:=w.heap.size) (o:=0) (v := .float .f64 (a)) (by simp [go_sem])
 have g00x:=RowKit.Below.froz hbw1 (b:=w.heap.size) (o:=0) (v := .float .f64 (a)) (by simp [go_sem]) (by simp [go_sem])
 have f01x:=RowKit.Below.cells hbw1 (b:=w.heap.size) (o:=1) (v := .float .f64 (b)) (by simp [go_sem])
 have g01x:=RowKit.Below.froz hbw1 (b:=w.heap.size) (o:=1) (v := .float .f64 (b)) (by simp [go_sem]) (by simp [go_sem])
 have f10x:=RowKit.Below.cells hbw1 (b:=w.heap.size+1) (o:=0) (v := .float .f64 (c)) (by simp [go_sem])
 have g10x:=RowKit.Below.froz hbw1 (b:=w.heap.size+1) (o:=0) (v := .float .f64 (c)) (by simp [go_sem]) (by simp [go_sem])
 have f11x:=RowKit.Below.cells hbw1 (b:=w.heap.size+1) (o:=1) (v := .float .f64 (d)) (by simp [go_sem])
 have g11x:=RowKit.Below.froz hbw1 (b:=w.heap.size+1) (o:=1) (v := .float .f64 (d)) (by simp [go_sem]) (by simp [go_sem])
 have B1:=below_alloc (below_alloc hbw1)
 have z1:w.heap.size+1<w1.heap.size:=Nat.lt_of_lt_of_le (by simp only [World.size_alloc];omega) hbw1.size
 clear hbw1
 go_wp2_with fail
 refine (reftaken_any _ _ hc hd _).mono ?_
 rintro e w2 ⟨rfl,hbw2⟩
 have f00:=RowKit.Below.cells hbw2 (b:=w.heap.size) (o:=0) (v := .float .f64 (ofKey (tkLo a b))) (by simp [go_sem,f00x,g00x,f01x,g01x,f10x,g10x,f11x,g11x])
 have g00:=RowKit.Below.froz hbw2 (b:=w.heap.size) (o:=0) (v := .float .f64 (ofKey (tkLo a b))) (by simp [go_sem,f00x,g00x,f01x,g01x,f10x,g10x,f11x,g11x]) (by simp [go_sem,f00x,g00x,f01x,g01x,f10x,g10x,f11x,g11x])
 have f01:=RowKit.Below.cells hbw2 (b:=w.heap.size) (o:=1) (v := .float .f64 (ofKey (tkHi a b))) (by simp [go_sem,f00x,g00x,f01x,g01x,f10x,g10x,f11x,g11x])
 have g01:=RowKit.Below.froz hbw2 (b:=w.heap.size) (o:=1) (v := .float .f64 (ofKey (tkHi a b))) (by simp [go_sem,f00x,g00x,f01x,g01x,f10x,g10x,f11x,g11x]) (by simp [go_sem,f00x,g00x,f01x,g01x,f10x,g10x,f11x,g11x])
 have f10:=RowKit.Below.cells hbw2 (b:=w.heap.size+1) (o:=0) (v := .float .f64 (c)) (by simp [go_sem,f00x,g00x,f01x,g01x,f10x,g10x,f11x,g11x])
 have g10:=RowKit.Below.froz hbw2 (b:=w.heap.size+1) (o:=0) (v := .float .f64 (c)) (by simp [go_sem,f00x,g00x,f01x,g01x,f10x,g10x,f11x,g11x]) (by simp [go_sem,f00x,g00x,f01x,g01x,f10x,g10x,f11x,g11x])
 have f11:=RowKit.Below.cells hbw2 (b:=w.heap.size+1) (o:=1) (v := .float .f64 (d)) (by simp [go_sem,f00x,g00x,f01x,g01x,f10x,g10x,f11x,g11x])
 have g11:=RowKit.Below.froz hbw2 (b:=w.heap.size+1) (o:=1) (v := .float .f64 (d)) (by simp [go_sem,f00x,g00x,f01x,g01x,f10x,g10x,f11x,g11x]) (by simp [go_sem,f00x,g00x,f01x,g01x,f10x,g10x,f11x,g11x])
 have B2:Below w.heap.size w w2:=below_step (w1:=(w1.setCell ⟨w.heap.size,0,none⟩ (.float .f64 (ofKey (tkLo a b)))).setCell ⟨w.heap.size,1,none⟩ (.float .f64 (ofKey (tkHi a b)))) (by go_grown) (by simp only [World.size_setCell];omega) hbw2
 have z2:w.heap.size+1<w2.heap.size:=Nat.lt_of_lt_of_le (by simp only [World.size_setCell];omega) hbw2.size
 clear hbw2 B1 z1 f00x g00x f01x g01x f10x g10x f11x g11x
 dsimp only
 iterate 4 go_step
 obtain ⟨w3,hw3⟩ : ∃ w3,w3=((w2.setCell ⟨w.heap.size+1,0,none⟩ (.float .f64 (ofKey (tkLo c d)))).setCell ⟨w.heap.size+1,1,none⟩ (.float .f64 (ofKey (tkHi c d)))):=⟨_,rfl⟩
 rw [←hw3]
 have F00:w3.cell? ⟨w.heap.size,0,none⟩=some (.float .f64 (ofKey (tkLo a b))):=by rw [hw3];simp [go_sem,f00,f01,f10,f11]
 have H00:w3.frozen? ⟨w.heap.size,0,none⟩=false:=by rw [hw3];simp [go_sem,g00,g01,g10,g11]
 have F01:w3.cell? ⟨w.heap.size,1,none⟩=some (.float .f64 (ofKey (tkHi a b))):=by rw [hw3];simp [go_sem,f00,f01,f10,f11]
 have H01:w3.frozen? ⟨w.heap.size,1,none⟩=false:=by rw [hw3];simp [go_sem,g00,g01,g10,g11]
 have F10:w3.cell? ⟨w.heap.size+1,0,none⟩=some (.float .f64 (ofKey (tkLo c d))):=by rw [hw3];simp [go_sem,f00,f01,f10,f11]
 have H10:w3.frozen? ⟨w.heap.size+1,0,none⟩=false:=by rw [hw3];simp [go_sem,g00,g01,g10,g11]
 have F11:w3.cell? ⟨w.heap.size+1,1,none⟩=some (.float .f64 (ofKey (tkHi c d))):=by rw [hw3];simp [go_sem,f00,f01,f10,f11]
 have H11:w3.frozen? ⟨w.heap.size+1,1,none⟩=false:=by rw [hw3];simp [go_sem,g00,g01,g10,g11]
 have B3:Below w.heap.size w w3:=by rw [hw3];go_grown
 have z3:w.heap.size+1<w3.heap.size:=by rw [hw3];simpa only [World.size_setCell] using z2
 clear hw3 f00 f01 f10 f11 g00 g01 g10 g11 B2 z2
 go_wp2_with (go_at_call 52;refine (refno_any _ _ (by assumption) (by assumption) _).mono ?_;rintro e wn ⟨rfl,hbn⟩;replace H00:=RowKit.Below.froz hbn F00 H00;replace F00:=RowKit.Below.cells hbn F00;replace H01:=RowKit.Below.froz hbn F01 H01;replace F01:=RowKit.Below.cells hbn F01;replace H10:=RowKit.Below.froz hbn F10 H10;replace F10:=RowKit.Below.cells hbn F10;replace H11:=RowKit.Below.froz hbn F11 H11;replace F11:=RowKit.Below.cells hbn F11;replace B3:=below_step B3 B3.size hbn;replace z3:=Nat.lt_of_lt_of_le z3 hbn.size;clear hbn)
 all_goals have k00:=cell_regrown F00
 all_goals have k01:=cell_regrown F01
 all_goals have k10:=cell_regrown F10
 all_goals have k11:=cell_regrown F11
 all_goals refine wp_region_below (by kernel_rfl) (by kernel_rfl) ?_
 repeat (any_goals (first|go_big_quiet_step ((first|(go_at_call 59;exact quiet_same (refinf_any _))))|quiet_step ((first|(go_at_call 59;exact quiet_same (refinf_any _))))|(refine wpQuiet_step (fun K hK => ?_);go_simp;split<;>(refine hK _ ?_;clear hK K))))
 all_goals (refine wpQuiet_nil (fun w5 hbw5 => ?_))
 all_goals replace B3:=below_step B3 B3.size hbw5
 all_goals clear k00 k01 k10 k11
 all_goals go_wp2
 all_goals go_ret
 all_goals refine ⟨ret_b ?_,B3⟩
 all_goals rw [isB_2]
 all_goals simp only [decide_eq_true_eq,decide_eq_false_iff_not] at dA dC
 all_goals (first|rfl|(refine (decide_eq_true ?_).symm;omega)|(refine (decide_eq_false ?_).symm;omega)|(refine decide_eq_decide.2 ?_;omega)|(rw [Bool.eq_iff_iff];simp only [Bool.and_eq_true,Bool.or_eq_true,Bool.not_eq_true,Bool.not_eq_eq_eq_not,Bool.not_true,Bool.not_false,decide_eq_true_eq,decide_eq_false_iff_not,Bool.false_eq_true,true_iff,false_iff]<;>omega))
set_option maxHeartbeats 2000000 in
theorem refis_2c (a b c d:Nat) (ha:Wd a) (hb:Wd b) (hc:Wd c) (hd:Wd d) (dA:decide (tkHi a b<tkLo a b)=false) (dC:decide (tkHi c d<tkLo c d)=true) (w:World) :
  Calls Tryz.prog 25 #[.int .i64 2,.agg #[.float .f64 (a),.float .f64 (b)],.agg #[.float .f64 (c),.float .f64 (d)]] w fun e w'=>e = .returned (.bool (isB 2 (tkLo a b) (tkHi a b) (tkLo c d) (tkHi c d)))∧Below w.heap.size w w':=by
 obtain ⟨rA,rB,iA⟩:=tk_iv a b
 obtain ⟨rC,rD,iC⟩:=tk_iv c d
 have rA1:=rA.1;have rA2:=rA.2;have rB1:=rB.1;have rB2:=rB.2;have rC1:=rC.1;have rC2:=rC.2;have rD1:=rD.1;have rD2:=rD.2
 have he:=eqiv
 have hP:=PI_pos
 go_enter Tryz.func25,Tryz.ntmps25
 go_wp2_with fail
 refine (reftaken_any _ _ ha hb _).mono ?_
 rintro e w1 ⟨rfl,hbw1⟩
 have f00x:=RowKit.Below.cells hbw1 (b:=w.heap.size) (o:=0) (v := .float .f64 (a)) (by simp [go_sem])
 have g00x:=RowKit.Below.froz hbw1 (b:=w.heap.size) (o:=0) (v := .float .f64 (a)) (by simp [go_sem]) (by simp [go_sem])
 have f01x:=RowKit.Below.cells hbw1 (b:=w.heap.size) (o:=1) (v := .float .f64 (b)) (by simp [go_sem])
 have g01x:=RowKit.Below.froz hbw1 (b:=w.heap.size) (o:=1) (v := .float .f64 (b)) (by simp [go_sem]) (by simp [go_sem])
 have f10x:=RowKit.Below.cells hbw1 (b:=w.heap.size+1) (o:=0) (v := .float .f64 (c)) (by simp [go_sem])
 have g10x:=RowKit.Below.froz hbw1 (b:=w.heap.size+1) (o:=0) (v := .float .f64 (c)) (by simp [go_sem]) (by simp [go_sem])
 have f11x:=RowKit.Below.cells hbw1 (b:=w.heap.size+1) (o:=1) (v := .float .f64 (d)) (by simp [go_sem])
 have g11x:=RowKit.Below.froz hbw1 (b:=w.heap.size+1) (o:=1) (v := .float .f64 (d)) (by simp [go_sem]) (by simp [go_sem])
 have B1:=below_alloc (below_alloc hbw1)
 have z1:w.heap.size+1<w1.heap.size:=Nat.lt_of_lt_of_le (by simp only [World.size_alloc];omega) hbw1.size
 clear hbw1
 go_wp2_with fail
 refine (reftaken_any _ _ hc hd _).mono ?_
 rintro e w2 ⟨rfl,hbw2⟩
 have f00:=RowKit.Below.cells hbw2 (b:=w.heap.size) (o:=0) (v := .float .f64 (ofKey (tkLo a b))) (by simp [go_sem,f00x,g00x,f01x,g01x,f10x,g10x,f11x,g11x])
 have g00:=RowKit.Below.froz hbw2 (b:=w.heap.size) (o:=0) (v := .float .f64 (ofKey (tkLo a b))) (by simp [go_sem,f00x,g00x,f01x,g01x,f10x,g10x,f11x,g11x]) (by simp [go_sem,f00x,g00x,f01x,g01x,f10x,g10x,f11x,g11x])
 have f01:=RowKit.Below.cells hbw2 (b:=w.heap.size) (o:=1) (v := .float .f64 (ofKey (tkHi a b))) (by simp [go_sem,f00x,g00x,f01x,g01x,f10x,g10x,f11x,g11x])
 have g01:=RowKit.Below.froz hbw2 (b:=w.heap.size) (o:=1) (v := .float .f64 (ofKey (tkHi a b))) (by simp [go_sem,f00x,g00x,f01x,g01x,f10x,g10x,f11x,g11x]) (by simp [go_sem,f00x,g00x,f01x,g01x,f10x,g10x,f11x,g11x])
 have f10:=RowKit.Below.cells hbw2 (b:=w.heap.size+1) (o:=0) (v := .float .f64 (c)) (by simp [go_sem,f00x,g00x,f01x,g01x,f10x,g10x,f11x,g11x])
 have g10:=RowKit.Below.froz hbw2 (b:=w.heap.size+1) (o:=0) (v := .float .f64 (c)) (by simp [go_sem,f00x,g00x,f01x,g01x,f10x,g10x,f11x,g11x]) (by simp [go_sem,f00x,g00x,f01x,g01x,f10x,g10x,f11x,g11x])
 have f11:=RowKit.Below.cells hbw2 (b:=w.heap.size+1) (o:=1) (v := .float .f64 (d)) (by simp [go_sem,f00x,g00x,f01x,g01x,f10x,g10x,f11x,g11x])
 have g11:=RowKit.Below.froz hbw2 (b:=w.heap.size+1) (o:=1) (v := .float .f64 (d)) (by simp [go_sem,f00x,g00x,f01x,g01x,f10x,g10x,f11x,g11x]) (by simp [go_sem,f00x,g00x,f01x,g01x,f10x,g10x,f11x,g11x])
 have B2:Below w.heap.size w w2:=below_step (w1:=(w1.setCell ⟨w.heap.size,0,none⟩ (.float .f64 (ofKey (tkLo a b)))).setCell ⟨w.heap.size,1,none⟩ (.float .f64 (ofKey (tkHi a b)))) (by go_grown) (by simp only [World.size_setCell];omega) hbw2
 have z2:w.heap.size+1<w2.heap.size:=Nat.lt_of_lt_of_le (by simp only [World.size_setCell];omega) hbw2.size
 clear hbw2 B1 z1 f00x g00x f01x g01x f10x g10x f11x g11x
 dsimp only
 iterate 4 go_step
 obtain ⟨w3,hw3⟩ : ∃ w3,w3=((w2.setCell ⟨w.heap.size+1,0,none⟩ (.float .f64 (ofKey (tkLo c d)))).setCell ⟨w.heap.size+1,1,none⟩ (.float .f64 (ofKey (tkHi c d)))):=⟨_,rfl⟩
 rw [←hw3]
 have F00:w3.cell? ⟨w.heap.size,0,none⟩=some (.float .f64 (ofKey (tkLo a b))):=by rw [hw3];simp [go_sem,f00,f01,f10,f11]
 have H00:w3.frozen? ⟨w.heap.size,0,none⟩=false:=by rw [hw3];simp [go_sem,g00,g01,g10,g11]
 have F01:w3.cell? ⟨w.heap.size,1,none⟩=some (.float .f64 (ofKey (tkHi a b))):=by rw [hw3];simp [go_sem,f00,f01,f10,f11]
 have H01:w3.frozen? ⟨w.heap.size,1,none⟩=false:=by rw [hw3];simp [go_sem,g00,g01,g10,g11]
 have F10:w3.cell? ⟨w.heap.size+1,0,none⟩=some (.float .f64 (ofKey (tkLo c d))):=by rw [hw3];simp [go_sem,f00,f01,f10,f11]
 have H10:w3.frozen? ⟨w.heap.size+1,0,none⟩=false:=by rw [hw3];simp [go_sem,g00,g01,g10,g11]
 have F11:w3.cell? ⟨w.heap.size+1,1,none⟩=some (.float .f64 (ofKey (tkHi c d))):=by rw [hw3];simp [go_sem,f00,f01,f10,f11]
 have H11:w3.frozen? ⟨w.heap.size+1,1,none⟩=false:=by rw [hw3];simp [go_sem,g00,g01,g10,g11]
 have B3:Below w.heap.size w w3:=by rw [hw3];go_grown
 have z3:w.heap.size+1<w3.heap.size:=by rw [hw3];simpa only [World.size_setCell] using z2
 clear hw3 f00 f01 f10 f11 g00 g01 g10 g11 B2 z2
 go_wp2_with (go_at_call 52;refine (refno_any _ _ (by assumption) (by assumption) _).mono ?_;rintro e wn ⟨rfl,hbn⟩;replace H00:=RowKit.Below.froz hbn F00 H00;replace F00:=RowKit.Below.cells hbn F00;replace H01:=RowKit.Below.froz hbn F01 H01;replace F01:=RowKit.Below.cells hbn F01;replace H10:=RowKit.Below.froz hbn F10 H10;replace F10:=RowKit.Below.cells hbn F10;replace H11:=RowKit.Below.froz hbn F11 H11;replace F11:=RowKit.Below.cells hbn F11;replace B3:=below_step B3 B3.size hbn;replace z3:=Nat.lt_of_lt_of_le z3 hbn.size;clear hbn)
 all_goals have k00:=cell_regrown F00
 all_goals have k01:=cell_regrown F01
 all_goals have k10:=cell_regrown F10
 all_goals have k11:=cell_regrown F11
 all_goals refine wp_region_below (by kernel_rfl) (by kernel_rfl) ?_
 repeat (any_goals (first|go_big_quiet_step ((first|(go_at_call 59;exact quiet_same (refinf_any _))))|quiet_step ((first|(go_at_call 59;exact quiet_same (refinf_any _))))|(refine wpQuiet_step (fun K hK => ?_);go_simp;split<;>(refine hK _ ?_;clear hK K))))
 all_goals (refine wpQuiet_nil (fun w5 hbw5 => ?_))
 all_goals replace B3:=below_step B3 B3.size hbw5
 all_goals clear k00 k01 k10 k11
 all_goals go_wp2
 all_goals go_ret
 all_goals refine ⟨ret_b ?_,B3⟩
 all_goals rw [isB_2]
 all_goals simp only [decide_eq_true_eq,decide_eq_false_iff_not] at dA dC
 all_goals (first|rfl|(refine (decide_eq_true ?_).symm;omega)|(refine (decide_eq_false ?_).symm;omega)|(refine decide_eq_decide.2 ?_;omega)|(rw [Bool.eq_iff_iff];simp only [Bool.and_eq_true,Bool.or_eq_true,Bool.not_eq_true,Bool.not_eq_eq_eq_not,Bool.not_true,Bool.not_false,decide_eq_true_eq,decide_eq_false_iff_not,Bool.false_eq_true,true_iff,false_iff]<;>omega))
set_option maxHeartbeats 2000000 in
theorem refis_2d (a b c d:Nat) (ha:Wd a) (hb:Wd b) (hc:Wd c) (hd:Wd d) (dA:decide (tkHi a b<tkLo a b)=false) (dC:decide (tkHi c d<tkLo c d)=false) (w:World) :
  Calls Tryz.prog 25 #[.int .i64 2,.agg #[.float .f64 (a),.float .f64 (b)],.agg #[.float .f64 (c),.float .f64 (d)]] w fun e w'=>e = .returned (.bool (isB 2 (tkLo a b) (tkHi a b) (tkLo c d) (tkHi c d)))∧Below w.heap.size w w':=by
 obtain ⟨rA,rB,iA⟩:=tk_iv a b
 obtain ⟨rC,rD,iC⟩:=tk_iv c d
 have rA1:=rA.1;have rA2:=rA.2;have rB1:=rB.1;have rB2:=rB.2;have rC1:=rC.1;have rC2:=rC.2;have rD1:=rD.1;have rD2:=rD.2
 have he:=eqiv
 have hP:=PI_pos
 go_enter Tryz.func25,Tryz.ntmps25
 go_wp2_with fail
 refine (reftaken_any _ _ ha hb _).mono ?_
 rintro e w1 ⟨rfl,hbw1⟩
 have f00x:=RowKit.Below.cells hbw1 (b:=w.heap.size) (o:=0) (v := .float .f64 (a)) (by simp [go_sem])
 have g00x:=RowKit.Below.froz hbw1 (b:=w.heap.size) (o:=0) (v := .float .f64 (a)) (by simp [go_sem]) (by simp [go_sem])
 have f01x:=RowKit.Below.cells hbw1 (b:=w.heap.size) (o:=1) (v := .float .f64 (b)) (by simp [go_sem])
 have g01x:=RowKit.Below.froz hbw1 (b:=w.heap.size) (o:=1) (v := .float .f64 (b)) (by simp [go_sem]) (by simp [go_sem])
 have f10x:=RowKit.Below.cells hbw1 (b:=w.heap.size+1) (o:=0) (v := .float .f64 (c)) (by simp [go_sem])
 have g10x:=RowKit.Below.froz hbw1 (b:=w.heap.size+1) (o:=0) (v := .float .f64 (c)) (by simp [go_sem]) (by simp [go_sem])
 have f11x:=RowKit.Below.cells hbw1 (b:=w.heap.size+1) (o:=1) (v := .float .f64 (d)) (by simp [go_sem])
 have g11x:=RowKit.Below.froz hbw1 (b:=w.heap.size+1) (o:=1) (v := .float .f64 (d)) (by simp [go_sem]) (by simp [go_sem])
 have B1:=below_alloc (below_alloc hbw1)
 have z1:w.heap.size+1<w1.heap.size:=Nat.lt_of_lt_of_le (by simp only [World.size_alloc];omega) hbw1.size
 clear hbw1
 go_wp2_with fail
 refine (reftaken_any _ _ hc hd _).mono ?_
 rintro e w2 ⟨rfl,hbw2⟩
 have f00:=RowKit.Below.cells hbw2 (b:=w.heap.size) (o:=0) (v := .float .f64 (ofKey (tkLo a b))) (by simp [go_sem,f00x,g00x,f01x,g01x,f10x,g10x,f11x,g11x])
 have g00:=RowKit.Below.froz hbw2 (b:=w.heap.size) (o:=0) (v := .float .f64 (ofKey (tkLo a b))) (by simp [go_sem,f00x,g00x,f01x,g01x,f10x,g10x,f11x,g11x]) (by simp [go_sem,f00x,g00x,f01x,g01x,f10x,g10x,f11x,g11x])
 have f01:=RowKit.Below.cells hbw2 (b:=w.heap.size) (o:=1) (v := .float .f64 (ofKey (tkHi a b))) (by simp [go_sem,f00x,g00x,f01x,g01x,f10x,g10x,f11x,g11x])
 have g01:=RowKit.Below.froz hbw2 (b:=w.heap.size) (o:=1) (v := .float .f64 (ofKey (tkHi a b))) (by simp [go_sem,f00x,g00x,f01x,g01x,f10x,g10x,f11x,g11x]) (by simp [go_sem,f00x,g00x,f01x,g01x,f10x,g10x,f11x,g11x])
 have f10:=RowKit.Below.cells hbw2 (b:=w.heap.size+1) (o:=0) (v := .float .f64 (c)) (by simp [go_sem,f00x,g00x,f01x,g01x,f10x,g10x,f11x,g11x])
 have g10:=RowKit.Below.froz hbw2 (b:=w.heap.size+1) (o:=0) (v := .float .f64 (c)) (by simp [go_sem,f00x,g00x,f01x,g01x,f10x,g10x,f11x,g11x]) (by simp [go_sem,f00x,g00x,f01x,g01x,f10x,g10x,f11x,g11x])
 have f11:=RowKit.Below.cells hbw2 (b:=w.heap.size+1) (o:=1) (v := .float .f64 (d)) (by simp [go_sem,f00x,g00x,f01x,g01x,f10x,g10x,f11x,g11x])
 have g11:=RowKit.Below.froz hbw2 (b:=w.heap.size+1) (o:=1) (v := .float .f64 (d)) (by simp [go_sem,f00x,g00x,f01x,g01x,f10x,g10x,f11x,g11x]) (by simp [go_sem,f00x,g00x,f01x,g01x,f10x,g10x,f11x,g11x])
 have B2:Below w.heap.size w w2:=below_step (w1:=(w1.setCell ⟨w.heap.size,0,none⟩ (.float .f64 (ofKey (tkLo a b)))).setCell ⟨w.heap.size,1,none⟩ (.float .f64 (ofKey (tkHi a b)))) (by go_grown) (by simp only [World.size_setCell];omega) hbw2
 have z2:w.heap.size+1<w2.heap.size:=Nat.lt_of_lt_of_le (by simp only [World.size_setCell];omega) hbw2.size
 clear hbw2 B1 z1 f00x g00x f01x g01x f10x g10x f11x g11x
 dsimp only
 iterate 4 go_step
 obtain ⟨w3,hw3⟩ : ∃ w3,w3=((w2.setCell ⟨w.heap.size+1,0,none⟩ (.float .f64 (ofKey (tkLo c d)))).setCell ⟨w.heap.size+1,1,none⟩ (.float .f64 (ofKey (tkHi c d)))):=⟨_,rfl⟩
 rw [←hw3]
 have F00:w3.cell? ⟨w.heap.size,0,none⟩=some (.float .f64 (ofKey (tkLo a b))):=by rw [hw3];simp [go_sem,f00,f01,f10,f11]
 have H00:w3.frozen? ⟨w.heap.size,0,none⟩=false:=by rw [hw3];simp [go_sem,g00,g01,g10,g11]
 have F01:w3.cell? ⟨w.heap.size,1,none⟩=some (.float .f64 (ofKey (tkHi a b))):=by rw [hw3];simp [go_sem,f00,f01,f10,f11]
 have H01:w3.frozen? ⟨w.heap.size,1,none⟩=false:=by rw [hw3];simp [go_sem,g00,g01,g10,g11]
 have F10:w3.cell? ⟨w.heap.size+1,0,none⟩=some (.float .f64 (ofKey (tkLo c d))):=by rw [hw3];simp [go_sem,f00,f01,f10,f11]
 have H10:w3.frozen? ⟨w.heap.size+1,0,none⟩=false:=by rw [hw3];simp [go_sem,g00,g01,g10,g11]
 have F11:w3.cell? ⟨w.heap.size+1,1,none⟩=some (.float .f64 (ofKey (tkHi c d))):=by rw [hw3];simp [go_sem,f00,f01,f10,f11]
 have H11:w3.frozen? ⟨w.heap.size+1,1,none⟩=false:=by rw [hw3];simp [go_sem,g00,g01,g10,g11]
 have B3:Below w.heap.size w w3:=by rw [hw3];go_grown
 have z3:w.heap.size+1<w3.heap.size:=by rw [hw3];simpa only [World.size_setCell] using z2
 clear hw3 f00 f01 f10 f11 g00 g01 g10 g11 B2 z2
 go_wp2_with (go_at_call 52;refine (refno_any _ _ (by assumption) (by assumption) _).mono ?_;rintro e wn ⟨rfl,hbn⟩;replace H00:=RowKit.Below.froz hbn F00 H00;replace F00:=RowKit.Below.cells hbn F00;replace H01:=RowKit.Below.froz hbn F01 H01;replace F01:=RowKit.Below.cells hbn F01;replace H10:=RowKit.Below.froz hbn F10 H10;replace F10:=RowKit.Below.cells hbn F10;replace H11:=RowKit.Below.froz hbn F11 H11;replace F11:=RowKit.Below.cells hbn F11;replace B3:=below_step B3 B3.size hbn;replace z3:=Nat.lt_of_lt_of_le z3 hbn.size;clear hbn)
 all_goals have k00:=cell_regrown F00
 all_goals have k01:=cell_regrown F01
 all_goals have k10:=cell_regrown F10
 all_goals have k11:=cell_regrown F11
 all_goals refine wp_region_below (by kernel_rfl) (by kernel_rfl) ?_
 repeat (any_goals (first|go_big_quiet_step ((first|(go_at_call 59;exact quiet_same (refinf_any _))))|quiet_step ((first|(go_at_call 59;exact quiet_same (refinf_any _))))|(refine wpQuiet_step (fun K hK => ?_);go_simp;split<;>(refine hK _ ?_;clear hK K))))
 all_goals (refine wpQuiet_nil (fun w5 hbw5 => ?_))
 all_goals replace B3:=below_step B3 B3.size hbw5
 all_goals clear k00 k01 k10 k11
 all_goals go_wp2
 all_goals go_ret
 all_goals refine ⟨ret_b ?_,B3⟩
 all_goals rw [isB_2]
 all_goals simp only [decide_eq_true_eq,decide_eq_false_iff_not] at dA dC
 all_goals (first|rfl|(refine (decide_eq_true ?_).symm;omega)|(refine (decide_eq_false ?_).symm;omega)|(refine decide_eq_decide.2 ?_;omega)|(rw [Bool.eq_iff_iff];simp only [Bool.and_eq_true,Bool.or_eq_true,Bool.not_eq_true,Bool.not_eq_eq_eq_not,Bool.not_true,Bool.not_false,decide_eq_true_eq,decide_eq_false_iff_not,Bool.false_eq_true,true_iff,false_iff]<;>omega))
theorem refis_2 (a b c d:Nat) (ha:Wd a) (hb:Wd b) (hc:Wd c) (hd:Wd d) (w:World) :
  Calls Tryz.prog 25 #[.int .i64 2,.agg #[.float .f64 (a),.float .f64 (b)],.agg #[.float .f64 (c),.float .f64 (d)]] w fun e w'=>e = .returned (.bool (isB 2 (tkLo a b) (tkHi a b) (tkLo c d) (tkHi c d)))∧Below w.heap.size w w':=by
 cases dA:decide (tkHi a b<tkLo a b)<;>cases dC:decide (tkHi c d<tkLo c d)
 ·exact refis_2d a b c d ha hb hc hd dA dC w
 ·exact refis_2c a b c d ha hb hc hd dA dC w
 ·exact refis_2b a b c d ha hb hc hd dA dC w
 ·exact refis_2a a b c d ha hb hc hd dA dC w
set_option maxHeartbeats 2000000 in
theorem refis_n (r:Int) (hr:r<0∨5<r) (a b c d:Nat) (ha:Wd a) (hb:Wd b) (hc:Wd c) (hd:Wd d) (w:World) :
  Calls Tryz.prog 25 #[.int .i64 r,.agg #[.float .f64 (a),.float .f64 (b)],.agg #[.float .f64 (c),.float .f64 (d)]] w fun e w'=>e = .returned (.bool (isB r (tkLo a b) (tkHi a b) (tkLo c d) (tkHi c d)))∧Below w.heap.size w w':=by
 obtain ⟨rA,rB,iA⟩:=tk_iv a b
 obtain ⟨rC,rD,iC⟩:=tk_iv c d
 have rA1:=rA.1;have rA2:=rA.2;have rB1:=rB.1;have rB2:=rB.2;have rC1:=rC.1;have rC2:=rC.2;have rD1:=rD.1;have rD2:=rD.2
 have he:=eqiv
 have hP:=PI_pos
 go_enter Tryz.func25,Tryz.ntmps25
 go_wp2_with fail
 refine (reftaken_any _ _ ha hb _).mono ?_
 rintro e w1 ⟨rfl,hbw1⟩
 have f00x:=RowKit.Below.cells hbw1 (b:=w.heap.size) (o:=0) (v := .float .f64 (a)) (by simp [go_sem])
 have g00x:=RowKit.Below.froz hbw1 (b:=w.heap.size) (o:=0) (v := .float .f64 (a)) (by simp [go_sem]) (by simp [go_sem])
 have f01x:=RowKit.Below.cells hbw1 (b:=w.heap.size) (o:=1) (v := .float .f64 (b)) (by simp [go_sem])
 have g01x:=RowKit.Below.froz hbw1 (b:=w.heap.size) (o:=1) (v := .float .f64 (b)) (by simp [go_sem]) (by simp [go_sem])
 have f10x:=RowKit.Below.cells hbw1 (b:=w.heap.size+1) (o:=0) (v := .float .f64 (c)) (by simp [go_sem])
 have g10x:=RowKit.Below.froz hbw1 (b:=w.heap.size+1) (o:=0) (v := .float .f64 (c)) (by simp [go_sem]) (by simp [go_sem])
 have f11x:=RowKit.Below.cells hbw1 (b:=w.heap.size+1) (o:=1) (v := .float .f64 (d)) (by simp [go_sem])
 have g11x:=RowKit.Below.froz hbw1 (b:=w.heap.size+1) (o:=1) (v := .float .f64 (d)) (by simp [go_sem]) (by simp [go_sem])
 have B1:=below_alloc (below_alloc hbw1)
 have z1:w.heap.size+1<w1.heap.size:=Nat.lt_of_lt_of_le (by simp only [World.size_alloc];omega) hbw1.size
 clear hbw1
 go_wp2_with fail
 refine (reftaken_any _ _ hc hd _).mono ?_
 rintro e w2 ⟨rfl,hbw2⟩
 have f00:=RowKit.Below.cells hbw2 (b:=w.heap.size) (o:=0) (v := .float .f64 (ofKey (tkLo a b))) (by simp [go_sem,f00x,g00x,f01x,g01x,f10x,g10x,f11x,g11x])
 have g00:=RowKit.Below.froz hbw2 (b:=w.heap.size) (o:=0) (v := .float .f64 (ofKey (tkLo a b))) (by simp [go_sem,f00x,g00x,f01x,g01x,f10x,g10x,f11x,g11x]) (by simp [go_sem,f00x,g00x,f01x,g01x,f10x,g10x,f11x,g11x])
 have f01:=RowKit.Below.cells hbw2 (b:=w.heap.size) (o:=1) (v := .float .f64 (ofKey (tkHi a b))) (by simp [go_sem,f00x,g00x,f01x,g01x,f10x,g10x,f11x,g11x])
 have g01:=RowKit.Below.froz hbw2 (b:=w.heap.size) (o:=1) (v := .float .f64 (ofKey (tkHi a b))) (by simp [go_sem,f00x,g00x,f01x,g01x,f10x,g10x,f11x,g11x]) (by simp [go_sem,f00x,g00x,f01x,g01x,f10x,g10x,f11x,g11x])
 have f10:=RowKit.Below.cells hbw2 (b:=w.heap.size+1) (o:=0) (v := .float .f64 (c)) (by simp [go_sem,f00x,g00x,f01x,g01x,f10x,g10x,f11x,g11x])
 have g10:=RowKit.Below.froz hbw2 (b:=w.heap.size+1) (o:=0) (v := .float .f64 (c)) (by simp [go_sem,f00x,g00x,f01x,g01x,f10x,g10x,f11x,g11x]) (by simp [go_sem,f00x,g00x,f01x,g01x,f10x,g10x,f11x,g11x])
 have f11:=RowKit.Below.cells hbw2 (b:=w.heap.size+1) (o:=1) (v := .float .f64 (d)) (by simp [go_sem,f00x,g00x,f01x,g01x,f10x,g10x,f11x,g11x])
 have g11:=RowKit.Below.froz hbw2 (b:=w.heap.size+1) (o:=1) (v := .float .f64 (d)) (by simp [go_sem,f00x,g00x,f01x,g01x,f10x,g10x,f11x,g11x]) (by simp [go_sem,f00x,g00x,f01x,g01x,f10x,g10x,f11x,g11x])
 have B2:Below w.heap.size w w2:=below_step (w1:=(w1.setCell ⟨w.heap.size,0,none⟩ (.float .f64 (ofKey (tkLo a b)))).setCell ⟨w.heap.size,1,none⟩ (.float .f64 (ofKey (tkHi a b)))) (by go_grown) (by simp only [World.size_setCell];omega) hbw2
 have z2:w.heap.size+1<w2.heap.size:=Nat.lt_of_lt_of_le (by simp only [World.size_setCell];omega) hbw2.size
 clear hbw2 B1 z1 f00x g00x f01x g01x f10x g10x f11x g11x
 dsimp only
 iterate 4 go_step
 obtain ⟨w3,hw3⟩ : ∃ w3,w3=((w2.setCell ⟨w.heap.size+1,0,none⟩ (.float .f64 (ofKey (tkLo c d)))).setCell ⟨w.heap.size+1,1,none⟩ (.float .f64 (ofKey (tkHi c d)))):=⟨_,rfl⟩
 rw [←hw3]
 have F00:w3.cell? ⟨w.heap.size,0,none⟩=some (.float .f64 (ofKey (tkLo a b))):=by rw [hw3];simp [go_sem,f00,f01,f10,f11]
 have H00:w3.frozen? ⟨w.heap.size,0,none⟩=false:=by rw [hw3];simp [go_sem,g00,g01,g10,g11]
 have F01:w3.cell? ⟨w.heap.size,1,none⟩=some (.float .f64 (ofKey (tkHi a b))):=by rw [hw3];simp [go_sem,f00,f01,f10,f11]
 have H01:w3.frozen? ⟨w.heap.size,1,none⟩=false:=by rw [hw3];simp [go_sem,g00,g01,g10,g11]
 have F10:w3.cell? ⟨w.heap.size+1,0,none⟩=some (.float .f64 (ofKey (tkLo c d))):=by rw [hw3];simp [go_sem,f00,f01,f10,f11]
 have H10:w3.frozen? ⟨w.heap.size+1,0,none⟩=false:=by rw [hw3];simp [go_sem,g00,g01,g10,g11]
 have F11:w3.cell? ⟨w.heap.size+1,1,none⟩=some (.float .f64 (ofKey (tkHi c d))):=by rw [hw3];simp [go_sem,f00,f01,f10,f11]
 have H11:w3.frozen? ⟨w.heap.size+1,1,none⟩=false:=by rw [hw3];simp [go_sem,g00,g01,g10,g11]
 have B3:Below w.heap.size w w3:=by rw [hw3];go_grown
 have z3:w.heap.size+1<w3.heap.size:=by rw [hw3];simpa only [World.size_setCell] using z2
 clear hw3 f00 f01 f10 f11 g00 g01 g10 g11 B2 z2
 have h0:(r==0)=false:=by simp;omega
 have h1:(r==1)=false:=by simp;omega
 have h2:(r==2)=false:=by simp;omega
 have h3:(r==3)=false:=by simp;omega
 have h4:(r==4)=false:=by simp;omega
 have h5:(r==5)=false:=by simp;omega
 go_wp2_with (go_at_call 52;refine (refno_any _ _ (by assumption) (by assumption) _).mono ?_;rintro e wn ⟨rfl,hbn⟩;replace H00:=RowKit.Below.froz hbn F00 H00;replace F00:=RowKit.Below.cells hbn F00;replace H01:=RowKit.Below.froz hbn F01 H01;replace F01:=RowKit.Below.cells hbn F01;replace H10:=RowKit.Below.froz hbn F10 H10;replace F10:=RowKit.Below.cells hbn F10;replace H11:=RowKit.Below.froz hbn F11 H11;replace F11:=RowKit.Below.cells hbn F11;replace B3:=below_step B3 B3.size hbn;replace z3:=Nat.lt_of_lt_of_le z3 hbn.size;clear hbn)
 all_goals go_ret
 all_goals exact ⟨ret_b (isB_no hr _ _ _ _).symm,B3⟩
theorem ivlis_any (r:Int) (a b c d:Nat) (ha:Wd a) (hb:Wd b) (hc:Wd c) (hd:Wd d) (w:World) :
  Calls Tryz.prog 58 #[.int .i64 r,.agg #[.float .f64 (a),.float .f64 (b)],.agg #[.float .f64 (c),.float .f64 (d)]] w fun e w'=>e = .returned (.bool (isB r (tkLo a b) (tkHi a b) (tkLo c d) (tkHi c d)))∧Below w.heap.size w w':=by
 by_cases h:r<0∨5<r
 ·exact ivlis_n r h a b c d ha hb hc hd w
 ·have:r=0∨r=1∨r=2∨r=3∨r=4∨r=5:=by omega
  rcases this with rfl|rfl|rfl|rfl|rfl|rfl
  ·exact ivlis_0 a b c d ha hb hc hd w
  ·exact ivlis_1 a b c d ha hb hc hd w
  ·exact ivlis_2 a b c d ha hb hc hd w
  ·exact ivlis_3 a b c d ha hb hc hd w
  ·exact ivlis_4 a b c d ha hb hc hd w
  ·exact ivlis_5 a b c d ha hb hc hd w
theorem refis_any (r:Int) (a b c d:Nat) (ha:Wd a) (hb:Wd b) (hc:Wd c) (hd:Wd d) (w:World) :
  Calls Tryz.prog 25 #[.int .i64 r,.agg #[.float .f64 (a),.float .f64 (b)],.agg #[.float .f64 (c),.float .f64 (d)]] w fun e w'=>e = .returned (.bool (isB r (tkLo a b) (tkHi a b) (tkLo c d) (tkHi c d)))∧Below w.heap.size w w':=by
 by_cases h:r<0∨5<r
 ·exact refis_n r h a b c d ha hb hc hd w
 ·have:r=0∨r=1∨r=2∨r=3∨r=4∨r=5:=by omega
  rcases this with rfl|rfl|rfl|rfl|rfl|rfl
  ·exact refis_0 a b c d ha hb hc hd w
  ·exact refis_1 a b c d ha hb hc hd w
  ·exact refis_2 a b c d ha hb hc hd w
  ·exact refis_3 a b c d ha hb hc hd w
  ·exact refis_4 a b c d ha hb hc hd w
  ·exact refis_5 a b c d ha hb hc hd w
theorem spansis_any (r:Int) (a b c d:Nat) (ha:Wd a) (hb:Wd b) (hc:Wd c) (hd:Wd d) (w:World) :
  Calls Tryz.prog 24 #[.int .i64 r,.agg #[.float .f64 (a),.float .f64 (b)],.agg #[.float .f64 (c),.float .f64 (d)]] w fun e w'=>e = .returned (.bool (isB r (tkLo a b) (tkHi a b) (tkLo c d) (tkHi c d)))∧Below w.heap.size w w':=by
 go_enter Tryz.func24,Tryz.ntmps24
 go_wp2_with (go_at_call 58;refine (ivlis_any _ _ _ _ _ ha hb hc hd _).mono ?_;rintro e w1 ⟨rfl,hbw1⟩;skip)
 go_ret
 exact ⟨rfl,below_alloc (below_alloc hbw1)⟩
theorem spansmeet_any (a b c d:Nat) (ha:Wd a) (hb:Wd b) (hc:Wd c) (hd:Wd d) (w:World) :
  Calls Tryz.prog 26 #[.agg #[.float .f64 (a),.float .f64 (b)],.agg #[.float .f64 (c),.float .f64 (d)]] w fun e w'=>e = .returned (.agg #[.float .f64 (ofKey (meetLo (tkLo a b) (tkHi a b) (tkLo c d) (tkHi c d))),.float .f64 (ofKey (meetHi (tkLo a b) (tkHi a b) (tkLo c d) (tkHi c d)))])∧Below w.heap.size w w':=by
 go_enter Tryz.func26,Tryz.ntmps26
 go_wp2_with (go_at_call 60;refine (ivlmeet_any _ _ _ _ ha hb hc hd _).mono ?_;rintro e w1 ⟨rfl,hbw1⟩;have f20:=RowKit.Below.cells hbw1 (b:=w.heap.size+2) (o:=0) (v := .float .f64 0) (by simp [go_sem,World.size_alloc]);have g20:=RowKit.Below.froz hbw1 (b:=w.heap.size+2) (o:=0) (v := .float .f64 0) (by simp [go_sem,World.size_alloc]) (by simp [go_sem,World.size_alloc]);have f21:=RowKit.Below.cells hbw1 (b:=w.heap.size+2) (o:=1) (v := .float .f64 0) (by simp [go_sem,World.size_alloc]);have g21:=RowKit.Below.froz hbw1 (b:=w.heap.size+2) (o:=1) (v := .float .f64 0) (by simp [go_sem,World.size_alloc]) (by simp [go_sem,World.size_alloc]))
 refine bodyPost_ret (v := .agg #[.float .f64 (ofKey (meetLo (tkLo a b) (tkHi a b) (tkLo c d) (tkHi c d))),.float .f64 (ofKey (meetHi (tkLo a b) (tkHi a b) (tkLo c d) (tkHi c d)))]) (by simp [results,Tryz.results26,go_sem,f20,f21]) rfl ⟨rfl,?_⟩
 have B1:=below_alloc (below_alloc (below_alloc hbw1))
 go_grown
theorem spanshull_any (a b c d:Nat) (ha:Wd a) (hb:Wd b) (hc:Wd c) (hd:Wd d) (w:World) :
  Calls Tryz.prog 28 #[.agg #[.float .f64 (a),.float .f64 (b)],.agg #[.float .f64 (c),.float .f64 (d)]] w fun e w'=>e = .returned (.agg #[.float .f64 (ofKey (min (tkLo a b) (tkLo c d))),.float .f64 (ofKey (max (tkHi a b) (tkHi c d)))])∧Below w.heap.size w w':=by
 go_enter Tryz.func28,Tryz.ntmps28
 go_wp2_with (go_at_call 62;refine (ivlhull_any _ _ _ _ ha hb hc hd _).mono ?_;rintro e w1 ⟨rfl,hbw1⟩;have f20:=RowKit.Below.cells hbw1 (b:=w.heap.size+2) (o:=0) (v := .float .f64 0) (by simp [go_sem,World.size_alloc]);have g20:=RowKit.Below.froz hbw1 (b:=w.heap.size+2) (o:=0) (v := .float .f64 0) (by simp [go_sem,World.size_alloc]) (by simp [go_sem,World.size_alloc]);have f21:=RowKit.Below.cells hbw1 (b:=w.heap.size+2) (o:=1) (v := .float .f64 0) (by simp [go_sem,World.size_alloc]);have g21:=RowKit.Below.froz hbw1 (b:=w.heap.size+2) (o:=1) (v := .float .f64 0) (by simp [go_sem,World.size_alloc]) (by simp [go_sem,World.size_alloc]))
 refine bodyPost_ret (v := .agg #[.float .f64 (ofKey (min (tkLo a b) (tkLo c d))),.float .f64 (ofKey (max (tkHi a b) (tkHi c d)))]) (by simp [results,Tryz.results28,go_sem,f20,f21]) rfl ⟨rfl,?_⟩
 have B1:=below_alloc (below_alloc (below_alloc hbw1))
 go_grown
end Go.Proofs.YteephgpefhodnaaGreat
