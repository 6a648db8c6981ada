/- The document's reals: beyond. The document's reals: beyond: differences. The document's reals: beyond: quotients. The document's reals: beyond: roots. -/
import Derived.Test.YteephgpefhodnaaGreatQB
namespace Go.Proofs.YteephgpefhodnaaGreat
open Go.RowKit Go.Sort Go.Fl
set_option linter.unusedSimpArgs false
set_option linter.unusedVariables false
theorem BigAt.alloc {w:World} {val:Value} {p:Nat} {N E:Int} (h:BigAt w val p N E) (o:Obj):BigAt (w.alloc o) val p N E:=by
 obtain ⟨s,v,l,h1,h2,h3⟩:=h
 exact ⟨s,v,l,h1,Row.alloc h2 o,h3⟩
theorem BigAt.more {w:World} {val:Value} {p q:Nat} {N E:Int} (h:BigAt w val p N E) (hq:p≤q):BigAt w val q N E:=by
 obtain ⟨s,v,l,h1,h2,h3,h4,h5,h6⟩:=h
 exact ⟨s,v,l,h1,h2,h3,h4,Nat.lt_of_lt_of_le h5 (Nat.pow_le_pow_right (by decide) hq),h6⟩
theorem BigAt.shape {w:World} {val:Value} {p:Nat} {N E:Int} (h:BigAt w val p N E) : ∃ s q n c,val = .agg #[.bool s,.slice q n c,.int .i64 E]:=by
 obtain ⟨s,v,l,rfl,h2,_⟩:=h
 obtain ⟨q,c,rfl,_⟩:=h2.len
 exact ⟨s,q,l.length,c,rfl⟩
theorem sign_scaled {N z:Int} {k:Nat} (h:N*2^k=z):N.sign=z.sign:=by
 have hp:(0:Int)<2^k:=Int.pow_pos (by decide)
 rw [←h,Int.sign_mul,Int.sign_eq_one_of_pos hp,Int.mul_one]
theorem fin_fneg {x:Nat} (hx:fin x) (hw:Wd x):fin (Op.negFloat .f64 x):=by
 rw [fin_key] at hx ⊢
 rw [k_neg hw]
 omega
theorem two_pow {N E z:Int} (h:N*2^(E+1074).toNat=z) (hE : -1074≤E):N*2^(E+(2148:Nat)).toNat=z*E74:=by
 rw [show (E+(2148:Nat)).toNat=(E+1074).toNat+X74 by rw [X74_eq];omega,Int.pow_add,←Int.mul_assoc,h]
 rfl
theorem mul_pow {N M E F z y:Int} (h:N*2^(E+1074).toNat=z) (h':M*2^(F+1074).toNat=y) (hE : -1074≤E) (hF : -1074≤F):N*M*2^(E+F+(2148:Nat)).toNat=z*y:=by
 rw [show (E+F+(2148:Nat)).toNat=(E+1074).toNat+(F+1074).toNat by omega,Int.pow_add,←h,←h']
 simp only [Int.mul_assoc,Int.mul_left_comm]
set_option maxRecDepth 4000 in
set_option maxHeartbeats 4000000 in
theorem beyond_mul (x y c:Nat) (hx:fin x) (hy:fin y) (hc:fin c) (wx:Wd x) (wy:Wd y) (wc:Wd c) (w:World) :
  Calls Tryz.prog 81 #[.int .i64 8,.float .f64 x,.float .f64 y,.float .f64 c] w fun e w'=>e = .returned (.int .i64 ((cMul (key x) (key y) (key c)).sign))∧Below w.heap.size w w':=by
 have CX:=Lib.hid (fun w=>bigof_any x hx wx w)
 have CY:=Lib.hid (fun w=>bigof_any y hy wy w)
 have CC:=Lib.hid (fun w=>bigof_any (Op.negFloat .f64 c) (fin_fneg hc wc) (wd_neg wc) w)
 have kc:=k_neg wc
 have Kc:=Lib.hid kc
 clear kc
 go_enter Tryz.func81,Tryz.ntmps81
 go_wp2_with fail
 refine (CX.out _).mono ?_
 rintro e w1 ⟨⟨val,N1,E1,rfl,G1,lo1,hi1,v1⟩,hbw1⟩
 obtain ⟨s1,q1,ln1,c1,rfl⟩:=BigAt.shape G1
 have V1:=Lib.hid v1
 clear v1
 have B:=hbw1
 clear hbw1
 go_wp2_with fail
 refine (CY.out _).mono ?_
 rintro e w2 ⟨⟨val,N2,E2,rfl,G2,lo2,hi2,v2⟩,hbw2⟩
 obtain ⟨s2,q2,ln2,c2,rfl⟩:=BigAt.shape G2
 have V2:=Lib.hid v2
 clear v2
 replace G1:=BigAt.below (BigAt.alloc (G1) _) hbw2
 have nB:w.heap.size≤w1.heap.size:=B.size
 have A0_0:At (World.alloc w1 (.cells #[.bool s1,.slice q1 ln1 c1,.int .i64 E1] 106)) (w1.heap.size) 0 (.bool s1):=⟨by simp [go_sem],by simp [go_sem]⟩
 replace A0_0:=At.below A0_0 hbw2
 have A0_1:At (World.alloc w1 (.cells #[.bool s1,.slice q1 ln1 c1,.int .i64 E1] 106)) (w1.heap.size) 1 (.slice q1 ln1 c1):=⟨by simp [go_sem],by simp [go_sem]⟩
 replace A0_1:=At.below A0_1 hbw2
 have A0_2:At (World.alloc w1 (.cells #[.bool s1,.slice q1 ln1 c1,.int .i64 E1] 106)) (w1.heap.size) 2 (.int .i64 E1):=⟨by simp [go_sem],by simp [go_sem]⟩
 replace A0_2:=At.below A0_2 hbw2
 replace B:=below_step B B.size (below_alloc (hbw2))
 clear hbw2
 have F0_0:=A0_0.1;have G0_0:=A0_0.2
 have F0_1:=A0_1.1;have G0_1:=A0_1.2
 have F0_2:=A0_2.1;have G0_2:=A0_2.2
 have Z0:=A0_0.lt
 go_wp2_with fail
 refine (CC.out _).mono ?_
 rintro e w3 ⟨⟨val,N3,E3,rfl,G3,lo3,hi3,v3⟩,hbw3⟩
 obtain ⟨s3,q3,ln3,c3,rfl⟩:=BigAt.shape G3
 have V3:=Lib.hid v3
 clear v3
 replace G1:=BigAt.below (BigAt.alloc (G1) _) hbw3
 replace G2:=BigAt.below (BigAt.alloc (G2) _) hbw3
 clear F0_0 G0_0 F0_1 G0_1 F0_2 G0_2 Z0
 have n1:w1.heap.size<w2.heap.size:=At.lt A0_2
 replace A0_0:=At.below (At.alloc (A0_0)) hbw3
 replace A0_1:=At.below (At.alloc (A0_1)) hbw3
 replace A0_2:=At.below (At.alloc (A0_2)) hbw3
 have A1_0:At (World.alloc w2 (.cells #[.bool s2,.slice q2 ln2 c2,.int .i64 E2] 106)) (w2.heap.size) 0 (.bool s2):=⟨by simp [go_sem],by simp [go_sem]⟩
 replace A1_0:=At.below A1_0 hbw3
 have A1_1:At (World.alloc w2 (.cells #[.bool s2,.slice q2 ln2 c2,.int .i64 E2] 106)) (w2.heap.size) 1 (.slice q2 ln2 c2):=⟨by simp [go_sem],by simp [go_sem]⟩
 replace A1_1:=At.below A1_1 hbw3
 have A1_2:At (World.alloc w2 (.cells #[.bool s2,.slice q2 ln2 c2,.int .i64 E2] 106)) (w2.heap.size) 2 (.int .i64 E2):=⟨by simp [go_sem],by simp [go_sem]⟩
 replace A1_2:=At.below A1_2 hbw3
 replace B:=below_step B B.size (below_alloc (hbw3))
 clear hbw3
 have F0_0:=A0_0.1;have G0_0:=A0_0.2
 have F0_1:=A0_1.1;have G0_1:=A0_1.2
 have F0_2:=A0_2.1;have G0_2:=A0_2.2
 have F1_0:=A1_0.1;have G1_0:=A1_0.2
 have F1_1:=A1_1.1;have G1_1:=A1_1.2
 have F1_2:=A1_2.1;have G1_2:=A1_2.2
 have Z0:=A0_0.lt
 have Z1:=A1_0.lt
 clear CX CY CC
 go_wp2_with fail
 refine (bigtimes_any _ _ _ _ _ _ (by omega) (by omega) _ (BigAt.alloc (G1) _) (BigAt.alloc (G2) _)).mono ?_
 rintro e w4 ⟨⟨val,rfl,G4⟩,hbw4⟩
 obtain ⟨N4,hN4⟩ : ∃ N,N=N1*N2:=⟨_,rfl⟩
 obtain ⟨E4,hE4⟩ : ∃ E,E=E1+E2:=⟨_,rfl⟩
 rw [←hN4,←hE4] at G4
 have HN4:=Lib.hid hN4
 have lo4 : -2148≤E4:=by omega
 have hi4:E4≤1942:=by omega
 have HE4:=Lib.hid hE4
 clear hN4 hE4
 obtain ⟨s4,q4,ln4,c4,rfl⟩:=BigAt.shape G4
 replace G1:=BigAt.below (BigAt.alloc (G1) _) hbw4
 replace G2:=BigAt.below (BigAt.alloc (G2) _) hbw4
 replace G3:=BigAt.below (BigAt.alloc (G3) _) hbw4
 clear F0_0 G0_0 F0_1 G0_1 F0_2 G0_2 F1_0 G1_0 F1_1 G1_1 F1_2 G1_2 Z0 Z1
 have n2:w2.heap.size<w3.heap.size:=At.lt A1_2
 replace A0_0:=At.below (At.alloc (A0_0)) hbw4
 replace A0_1:=At.below (At.alloc (A0_1)) hbw4
 replace A0_2:=At.below (At.alloc (A0_2)) hbw4
 replace A1_0:=At.below (At.alloc (A1_0)) hbw4
 replace A1_1:=At.below (At.alloc (A1_1)) hbw4
 replace A1_2:=At.below (At.alloc (A1_2)) hbw4
 have A2_0:At (World.alloc w3 (.cells #[.bool s3,.slice q3 ln3 c3,.int .i64 E3] 106)) (w3.heap.size) 0 (.bool s3):=⟨by simp [go_sem],by simp [go_sem]⟩
 replace A2_0:=At.below A2_0 hbw4
 have A2_1:At (World.alloc w3 (.cells #[.bool s3,.slice q3 ln3 c3,.int .i64 E3] 106)) (w3.heap.size) 1 (.slice q3 ln3 c3):=⟨by simp [go_sem],by simp [go_sem]⟩
 replace A2_1:=At.below A2_1 hbw4
 have A2_2:At (World.alloc w3 (.cells #[.bool s3,.slice q3 ln3 c3,.int .i64 E3] 106)) (w3.heap.size) 2 (.int .i64 E3):=⟨by simp [go_sem],by simp [go_sem]⟩
 replace A2_2:=At.below A2_2 hbw4
 replace B:=below_step B B.size (below_alloc (hbw4))
 clear hbw4
 have F0_0:=A0_0.1;have G0_0:=A0_0.2
 have F0_1:=A0_1.1;have G0_1:=A0_1.2
 have F0_2:=A0_2.1;have G0_2:=A0_2.2
 have F1_0:=A1_0.1;have G1_0:=A1_0.2
 have F1_1:=A1_1.1;have G1_1:=A1_1.2
 have F1_2:=A1_2.1;have G1_2:=A1_2.2
 have F2_0:=A2_0.1;have G2_0:=A2_0.2
 have F2_1:=A2_1.1;have G2_1:=A2_1.2
 have F2_2:=A2_2.1;have G2_2:=A2_2.2
 have Z0:=A0_0.lt
 have Z1:=A1_0.lt
 have Z2:=A2_0.lt
 go_wp2_with fail
 refine (bigplus_any _ _ _ _ _ _ 106 4000 (by omega) (by omega) (by omega) (by omega) (by decide) _ (BigAt.alloc (BigAt.more G4 (by decide)) _) (BigAt.alloc (BigAt.more G3 (by decide)) _)).mono ?_
 rintro e w5 ⟨⟨val,N5,E5,rfl,G5,hE5,v5⟩,hbw5⟩
 obtain ⟨s5,q5,ln5,c5,rfl⟩:=BigAt.shape G5
 have V5:=Lib.hid v5
 have lo5 : -2148≤E5:=by omega
 have hi5:E5≤1942:=by omega
 clear v5 hE5
 replace G1:=BigAt.below (BigAt.alloc (G1) _) hbw5
 replace G2:=BigAt.below (BigAt.alloc (G2) _) hbw5
 replace G3:=BigAt.below (BigAt.alloc (G3) _) hbw5
 replace G4:=BigAt.below (BigAt.alloc (G4) _) hbw5
 clear F0_0 G0_0 F0_1 G0_1 F0_2 G0_2 F1_0 G1_0 F1_1 G1_1 F1_2 G1_2 F2_0 G2_0 F2_1 G2_1 F2_2 G2_2 Z0 Z1 Z2
 have n3:w3.heap.size<w4.heap.size:=At.lt A2_2
 replace A0_0:=At.below (At.alloc (A0_0)) hbw5
 replace A0_1:=At.below (At.alloc (A0_1)) hbw5
 replace A0_2:=At.below (At.alloc (A0_2)) hbw5
 replace A1_0:=At.below (At.alloc (A1_0)) hbw5
 replace A1_1:=At.below (At.alloc (A1_1)) hbw5
 replace A1_2:=At.below (At.alloc (A1_2)) hbw5
 replace A2_0:=At.below (At.alloc (A2_0)) hbw5
 replace A2_1:=At.below (At.alloc (A2_1)) hbw5
 replace A2_2:=At.below (At.alloc (A2_2)) hbw5
 have A3_0:At (World.alloc w4 (.cells #[.bool s4,.slice q4 ln4 c4,.int .i64 E4] 106)) (w4.heap.size) 0 (.bool s4):=⟨by simp [go_sem],by simp [go_sem]⟩
 replace A3_0:=At.below A3_0 hbw5
 have A3_1:At (World.alloc w4 (.cells #[.bool s4,.slice q4 ln4 c4,.int .i64 E4] 106)) (w4.heap.size) 1 (.slice q4 ln4 c4):=⟨by simp [go_sem],by simp [go_sem]⟩
 replace A3_1:=At.below A3_1 hbw5
 have A3_2:At (World.alloc w4 (.cells #[.bool s4,.slice q4 ln4 c4,.int .i64 E4] 106)) (w4.heap.size) 2 (.int .i64 E4):=⟨by simp [go_sem],by simp [go_sem]⟩
 replace A3_2:=At.below A3_2 hbw5
 replace B:=below_step B B.size (below_alloc (hbw5))
 clear hbw5
 have F0_0:=A0_0.1;have G0_0:=A0_0.2
 have F0_1:=A0_1.1;have G0_1:=A0_1.2
 have F0_2:=A0_2.1;have G0_2:=A0_2.2
 have F1_0:=A1_0.1;have G1_0:=A1_0.2
 have F1_1:=A1_1.1;have G1_1:=A1_1.2
 have F1_2:=A1_2.1;have G1_2:=A1_2.2
 have F2_0:=A2_0.1;have G2_0:=A2_0.2
 have F2_1:=A2_1.1;have G2_1:=A2_1.2
 have F2_2:=A2_2.1;have G2_2:=A2_2.2
 have F3_0:=A3_0.1;have G3_0:=A3_0.2
 have F3_1:=A3_1.1;have G3_1:=A3_1.2
 have F3_2:=A3_2.1;have G3_2:=A3_2.2
 have Z0:=A0_0.lt
 have Z1:=A1_0.lt
 have Z2:=A2_0.lt
 have Z3:=A3_0.lt
 go_wp2_with fail
 refine (bigsign_any _ _ _ _ _ (BigAt.alloc (G5) _)).mono ?_
 rintro e w6 ⟨rfl,hbw6⟩
 replace G1:=BigAt.below (BigAt.alloc (G1) _) hbw6
 replace G2:=BigAt.below (BigAt.alloc (G2) _) hbw6
 replace G3:=BigAt.below (BigAt.alloc (G3) _) hbw6
 replace G4:=BigAt.below (BigAt.alloc (G4) _) hbw6
 replace G5:=BigAt.below (BigAt.alloc (G5) _) hbw6
 clear F0_0 G0_0 F0_1 G0_1 F0_2 G0_2 F1_0 G1_0 F1_1 G1_1 F1_2 G1_2 F2_0 G2_0 F2_1 G2_1 F2_2 G2_2 F3_0 G3_0 F3_1 G3_1 F3_2 G3_2 Z0 Z1 Z2 Z3
 have n4:w4.heap.size<w5.heap.size:=At.lt A3_2
 replace A0_0:=At.below (At.alloc (A0_0)) hbw6
 replace A0_1:=At.below (At.alloc (A0_1)) hbw6
 replace A0_2:=At.below (At.alloc (A0_2)) hbw6
 replace A1_0:=At.below (At.alloc (A1_0)) hbw6
 replace A1_1:=At.below (At.alloc (A1_1)) hbw6
 replace A1_2:=At.below (At.alloc (A1_2)) hbw6
 replace A2_0:=At.below (At.alloc (A2_0)) hbw6
 replace A2_1:=At.below (At.alloc (A2_1)) hbw6
 replace A2_2:=At.below (At.alloc (A2_2)) hbw6
 replace A3_0:=At.below (At.alloc (A3_0)) hbw6
 replace A3_1:=At.below (At.alloc (A3_1)) hbw6
 replace A3_2:=At.below (At.alloc (A3_2)) hbw6
 have A4_0:At (World.alloc w5 (.cells #[.bool s5,.slice q5 ln5 c5,.int .i64 E5] 106)) (w5.heap.size) 0 (.bool s5):=⟨by simp [go_sem],by simp [go_sem]⟩
 replace A4_0:=At.below A4_0 hbw6
 have A4_1:At (World.alloc w5 (.cells #[.bool s5,.slice q5 ln5 c5,.int .i64 E5] 106)) (w5.heap.size) 1 (.slice q5 ln5 c5):=⟨by simp [go_sem],by simp [go_sem]⟩
 replace A4_1:=At.below A4_1 hbw6
 have A4_2:At (World.alloc w5 (.cells #[.bool s5,.slice q5 ln5 c5,.int .i64 E5] 106)) (w5.heap.size) 2 (.int .i64 E5):=⟨by simp [go_sem],by simp [go_sem]⟩
 replace A4_2:=At.below A4_2 hbw6
 replace B:=below_step B B.size (below_alloc (hbw6))
 clear hbw6
 have F0_0:=A0_0.1;have G0_0:=A0_0.2
 have F0_1:=A0_1.1;have G0_1:=A0_1.2
 have F0_2:=A0_2.1;have G0_2:=A0_2.2
 have F1_0:=A1_0.1;have G1_0:=A1_0.2
 have F1_1:=A1_1.1;have G1_1:=A1_1.2
 have F1_2:=A1_2.1;have G1_2:=A1_2.2
 have F2_0:=A2_0.1;have G2_0:=A2_0.2
 have F2_1:=A2_1.1;have G2_1:=A2_1.2
 have F2_2:=A2_2.1;have G2_2:=A2_2.2
 have F3_0:=A3_0.1;have G3_0:=A3_0.2
 have F3_1:=A3_1.1;have G3_1:=A3_1.2
 have F3_2:=A3_2.1;have G3_2:=A3_2.2
 have F4_0:=A4_0.1;have G4_0:=A4_0.2
 have F4_1:=A4_1.1;have G4_1:=A4_1.2
 have F4_2:=A4_2.1;have G4_2:=A4_2.2
 have Z0:=A0_0.lt
 have Z1:=A1_0.lt
 have Z2:=A2_0.lt
 have Z3:=A3_0.lt
 have Z4:=A4_0.lt
 have r:=V5.out 2148 (by omega) (by omega)
 rw [HN4.out,HE4.out,mul_pow V1.out V2.out lo1 lo2,two_pow V3.out lo3,Kc.out,V_neg] at r
 have hr:N5.sign=(cMul (key x) (key y) (key c)).sign:=sign_scaled (r.trans (by unfold cMul;rw [Int.neg_mul];omega))
 go_wp2_with fail
 go_ret
 exact ⟨rfl,B⟩
set_option maxRecDepth 4000 in
set_option maxHeartbeats 4000000 in
theorem beyond_add (x y c:Nat) (hx:fin x) (hy:fin y) (hc:fin c) (wx:Wd x) (wy:Wd y) (wc:Wd c) (w:World) :
  Calls Tryz.prog 81 #[.int .i64 6,.float .f64 x,.float .f64 y,.float .f64 c] w fun e w'=>e = .returned (.int .i64 ((cAdd (key x) (key y) (key c)).sign))∧Below w.heap.size w w':=by
 have CX:=Lib.hid (fun w=>bigof_any x hx wx w)
 have CY:=Lib.hid (fun w=>bigof_any y hy wy w)
 have CC:=Lib.hid (fun w=>bigof_any (Op.negFloat .f64 c) (fin_fneg hc wc) (wd_neg wc) w)
 have kc:=k_neg wc
 have Kc:=Lib.hid kc
 clear kc
 go_enter Tryz.func81,Tryz.ntmps81
 go_wp2_with fail
 refine (CX.out _).mono ?_
 rintro e w1 ⟨⟨val,N1,E1,rfl,G1,lo1,hi1,v1⟩,hbw1⟩
 obtain ⟨s1,q1,ln1,c1,rfl⟩:=BigAt.shape G1
 have V1:=Lib.hid v1
 clear v1
 have B:=hbw1
 clear hbw1
 go_wp2_with fail
 refine (CY.out _).mono ?_
 rintro e w2 ⟨⟨val,N2,E2,rfl,G2,lo2,hi2,v2⟩,hbw2⟩
 obtain ⟨s2,q2,ln2,c2,rfl⟩:=BigAt.shape G2
 have V2:=Lib.hid v2
 clear v2
 replace G1:=BigAt.below (BigAt.alloc (G1) _) hbw2
 have nB:w.heap.size≤w1.heap.size:=B.size
 have A0_0:At (World.alloc w1 (.cells #[.bool s1,.slice q1 ln1 c1,.int .i64 E1] 106)) (w1.heap.size) 0 (.bool s1):=⟨by simp [go_sem],by simp [go_sem]⟩
 replace A0_0:=At.below A0_0 hbw2
 have A0_1:At (World.alloc w1 (.cells #[.bool s1,.slice q1 ln1 c1,.int .i64 E1] 106)) (w1.heap.size) 1 (.slice q1 ln1 c1):=⟨by simp [go_sem],by simp [go_sem]⟩
 replace A0_1:=At.below A0_1 hbw2
 have A0_2:At (World.alloc w1 (.cells #[.bool s1,.slice q1 ln1 c1,.int .i64 E1] 106)) (w1.heap.size) 2 (.int .i64 E1):=⟨by simp [go_sem],by simp [go_sem]⟩
 replace A0_2:=At.below A0_2 hbw2
 replace B:=below_step B B.size (below_alloc (hbw2))
 clear hbw2
 have F0_0:=A0_0.1;have G0_0:=A0_0.2
 have F0_1:=A0_1.1;have G0_1:=A0_1.2
 have F0_2:=A0_2.1;have G0_2:=A0_2.2
 have Z0:=A0_0.lt
 go_wp2_with fail
 refine (CC.out _).mono ?_
 rintro e w3 ⟨⟨val,N3,E3,rfl,G3,lo3,hi3,v3⟩,hbw3⟩
 obtain ⟨s3,q3,ln3,c3,rfl⟩:=BigAt.shape G3
 have V3:=Lib.hid v3
 clear v3
 replace G1:=BigAt.below (BigAt.alloc (G1) _) hbw3
 replace G2:=BigAt.below (BigAt.alloc (G2) _) hbw3
 clear F0_0 G0_0 F0_1 G0_1 F0_2 G0_2 Z0
 have n1:w1.heap.size<w2.heap.size:=At.lt A0_2
 replace A0_0:=At.below (At.alloc (A0_0)) hbw3
 replace A0_1:=At.below (At.alloc (A0_1)) hbw3
 replace A0_2:=At.below (At.alloc (A0_2)) hbw3
 have A1_0:At (World.alloc w2 (.cells #[.bool s2,.slice q2 ln2 c2,.int .i64 E2] 106)) (w2.heap.size) 0 (.bool s2):=⟨by simp [go_sem],by simp [go_sem]⟩
 replace A1_0:=At.below A1_0 hbw3
 have A1_1:At (World.alloc w2 (.cells #[.bool s2,.slice q2 ln2 c2,.int .i64 E2] 106)) (w2.heap.size) 1 (.slice q2 ln2 c2):=⟨by simp [go_sem],by simp [go_sem]⟩
 replace A1_1:=At.below A1_1 hbw3
 have A1_2:At (World.alloc w2 (.cells #[.bool s2,.slice q2 ln2 c2,.int .i64 E2] 106)) (w2.heap.size) 2 (.int .i64 E2):=⟨by simp [go_sem],by simp [go_sem]⟩
 replace A1_2:=At.below A1_2 hbw3
 replace B:=below_step B B.size (below_alloc (hbw3))
 clear hbw3
 have F0_0:=A0_0.1;have G0_0:=A0_0.2
 have F0_1:=A0_1.1;have G0_1:=A0_1.2
 have F0_2:=A0_2.1;have G0_2:=A0_2.2
 have F1_0:=A1_0.1;have G1_0:=A1_0.2
 have F1_1:=A1_1.1;have G1_1:=A1_1.2
 have F1_2:=A1_2.1;have G1_2:=A1_2.2
 have Z0:=A0_0.lt
 have Z1:=A1_0.lt
 clear CX CY CC
 go_wp2_with fail
 refine (bigplus_any _ _ _ _ _ _ 53 2100 (by omega) (by omega) (by omega) (by omega) (by decide) _ (BigAt.alloc (BigAt.more G1 (by decide)) _) (BigAt.alloc (BigAt.more G2 (by decide)) _)).mono ?_
 rintro e w4 ⟨⟨val,N4,E4,rfl,G4,hE4,v4⟩,hbw4⟩
 obtain ⟨s4,q4,ln4,c4,rfl⟩:=BigAt.shape G4
 have V4:=Lib.hid v4
 have lo4 : -1074≤E4:=by omega
 have hi4:E4≤971:=by omega
 clear v4 hE4
 replace G1:=BigAt.below (BigAt.alloc (G1) _) hbw4
 replace G2:=BigAt.below (BigAt.alloc (G2) _) hbw4
 replace G3:=BigAt.below (BigAt.alloc (G3) _) hbw4
 clear F0_0 G0_0 F0_1 G0_1 F0_2 G0_2 F1_0 G1_0 F1_1 G1_1 F1_2 G1_2 Z0 Z1
 have n2:w2.heap.size<w3.heap.size:=At.lt A1_2
 replace A0_0:=At.below (At.alloc (A0_0)) hbw4
 replace A0_1:=At.below (At.alloc (A0_1)) hbw4
 replace A0_2:=At.below (At.alloc (A0_2)) hbw4
 replace A1_0:=At.below (At.alloc (A1_0)) hbw4
 replace A1_1:=At.below (At.alloc (A1_1)) hbw4
 replace A1_2:=At.below (At.alloc (A1_2)) hbw4
 have A2_0:At (World.alloc w3 (.cells #[.bool s3,.slice q3 ln3 c3,.int .i64 E3] 106)) (w3.heap.size) 0 (.bool s3):=⟨by simp [go_sem],by simp [go_sem]⟩
 replace A2_0:=At.below A2_0 hbw4
 have A2_1:At (World.alloc w3 (.cells #[.bool s3,.slice q3 ln3 c3,.int .i64 E3] 106)) (w3.heap.size) 1 (.slice q3 ln3 c3):=⟨by simp [go_sem],by simp [go_sem]⟩
 replace A2_1:=At.below A2_1 hbw4
 have A2_2:At (World.alloc w3 (.cells #[.bool s3,.slice q3 ln3 c3,.int .i64 E3] 106)) (w3.heap.size) 2 (.int .i64 E3):=⟨by simp [go_sem],by simp [go_sem]⟩
 replace A2_2:=At.below A2_2 hbw4
 replace B:=below_step B B.size (below_alloc (hbw4))
 clear hbw4
 have F0_0:=A0_0.1;have G0_0:=A0_0.2
 have F0_1:=A0_1.1;have G0_1:=A0_1.2
 have F0_2:=A0_2.1;have G0_2:=A0_2.2
 have F1_0:=A1_0.1;have G1_0:=A1_0.2
 have F1_1:=A1_1.1;have G1_1:=A1_1.2
 have F1_2:=A1_2.1;have G1_2:=A1_2.2
 have F2_0:=A2_0.1;have G2_0:=A2_0.2
 have F2_1:=A2_1.1;have G2_1:=A2_1.2
 have F2_2:=A2_2.1;have G2_2:=A2_2.2
 have Z0:=A0_0.lt
 have Z1:=A1_0.lt
 have Z2:=A2_0.lt
 go_wp2_with fail
 refine (bigplus_any _ _ _ _ _ _ 2200 2100 (by omega) (by omega) (by omega) (by omega) (by decide) _ (BigAt.alloc (BigAt.more G4 (by decide)) _) (BigAt.alloc (BigAt.more G3 (by decide)) _)).mono ?_
 rintro e w5 ⟨⟨val,N5,E5,rfl,G5,hE5,v5⟩,hbw5⟩
 obtain ⟨s5,q5,ln5,c5,rfl⟩:=BigAt.shape G5
 have V5:=Lib.hid v5
 have lo5 : -1074≤E5:=by omega
 have hi5:E5≤971:=by omega
 clear v5 hE5
 replace G1:=BigAt.below (BigAt.alloc (G1) _) hbw5
 replace G2:=BigAt.below (BigAt.alloc (G2) _) hbw5
 replace G3:=BigAt.below (BigAt.alloc (G3) _) hbw5
 replace G4:=BigAt.below (BigAt.alloc (G4) _) hbw5
 clear F0_0 G0_0 F0_1 G0_1 F0_2 G0_2 F1_0 G1_0 F1_1 G1_1 F1_2 G1_2 F2_0 G2_0 F2_1 G2_1 F2_2 G2_2 Z0 Z1 Z2
 have n3:w3.heap.size<w4.heap.size:=At.lt A2_2
 replace A0_0:=At.below (At.alloc (A0_0)) hbw5
 replace A0_1:=At.below (At.alloc (A0_1)) hbw5
 replace A0_2:=At.below (At.alloc (A0_2)) hbw5
 replace A1_0:=At.below (At.alloc (A1_0)) hbw5
 replace A1_1:=At.below (At.alloc (A1_1)) hbw5
 replace A1_2:=At.below (At.alloc (A1_2)) hbw5
 replace A2_0:=At.below (At.alloc (A2_0)) hbw5
 replace A2_1:=At.below (At.alloc (A2_1)) hbw5
 replace A2_2:=At.below (At.alloc (A2_2)) hbw5
 have A3_0:At (World.alloc w4 (.cells #[.bool s4,.slice q4 ln4 c4,.int .i64 E4] 106)) (w4.heap.size) 0 (.bool s4):=⟨by simp [go_sem],by simp [go_sem]⟩
 replace A3_0:=At.below A3_0 hbw5
 have A3_1:At (World.alloc w4 (.cells #[.bool s4,.slice q4 ln4 c4,.int .i64 E4] 106)) (w4.heap.size) 1 (.slice q4 ln4 c4):=⟨by simp [go_sem],by simp [go_sem]⟩
 replace A3_1:=At.below A3_1 hbw5
 have A3_2:At (World.alloc w4 (.cells #[.bool s4,.slice q4 ln4 c4,.int .i64 E4] 106)) (w4.heap.size) 2 (.int .i64 E4):=⟨by simp [go_sem],by simp [go_sem]⟩
 replace A3_2:=At.below A3_2 hbw5
 replace B:=below_step B B.size (below_alloc (hbw5))
 clear hbw5
 have F0_0:=A0_0.1;have G0_0:=A0_0.2
 have F0_1:=A0_1.1;have G0_1:=A0_1.2
 have F0_2:=A0_2.1;have G0_2:=A0_2.2
 have F1_0:=A1_0.1;have G1_0:=A1_0.2
 have F1_1:=A1_1.1;have G1_1:=A1_1.2
 have F1_2:=A1_2.1;have G1_2:=A1_2.2
 have F2_0:=A2_0.1;have G2_0:=A2_0.2
 have F2_1:=A2_1.1;have G2_1:=A2_1.2
 have F2_2:=A2_2.1;have G2_2:=A2_2.2
 have F3_0:=A3_0.1;have G3_0:=A3_0.2
 have F3_1:=A3_1.1;have G3_1:=A3_1.2
 have F3_2:=A3_2.1;have G3_2:=A3_2.2
 have Z0:=A0_0.lt
 have Z1:=A1_0.lt
 have Z2:=A2_0.lt
 have Z3:=A3_0.lt
 have r4:=V4.out 1074 (by omega) (by omega)
 have r:=V5.out 1074 (by omega) (by omega)
 rw [show ((1074:Nat):Int)=1074 from rfl] at r r4
 rw [r4,V1.out,V2.out,V3.out,Kc.out,V_neg] at r
 go_wp2_with fail
 refine (bigsign_any _ _ _ _ _ (BigAt.alloc (G5) _)).mono ?_
 rintro e w6 ⟨rfl,hbw6⟩
 replace G1:=BigAt.below (BigAt.alloc (G1) _) hbw6
 replace G2:=BigAt.below (BigAt.alloc (G2) _) hbw6
 replace G3:=BigAt.below (BigAt.alloc (G3) _) hbw6
 replace G4:=BigAt.below (BigAt.alloc (G4) _) hbw6
 replace G5:=BigAt.below (BigAt.alloc (G5) _) hbw6
 clear F0_0 G0_0 F0_1 G0_1 F0_2 G0_2 F1_0 G1_0 F1_1 G1_1 F1_2 G1_2 F2_0 G2_0 F2_1 G2_1 F2_2 G2_2 F3_0 G3_0 F3_1 G3_1 F3_2 G3_2 Z0 Z1 Z2 Z3
 have n4:w4.heap.size<w5.heap.size:=At.lt A3_2
 replace A0_0:=At.below (At.alloc (A0_0)) hbw6
 replace A0_1:=At.below (At.alloc (A0_1)) hbw6
 replace A0_2:=At.below (At.alloc (A0_2)) hbw6
 replace A1_0:=At.below (At.alloc (A1_0)) hbw6
 replace A1_1:=At.below (At.alloc (A1_1)) hbw6
 replace A1_2:=At.below (At.alloc (A1_2)) hbw6
 replace A2_0:=At.below (At.alloc (A2_0)) hbw6
 replace A2_1:=At.below (At.alloc (A2_1)) hbw6
 replace A2_2:=At.below (At.alloc (A2_2)) hbw6
 replace A3_0:=At.below (At.alloc (A3_0)) hbw6
 replace A3_1:=At.below (At.alloc (A3_1)) hbw6
 replace A3_2:=At.below (At.alloc (A3_2)) hbw6
 have A4_0:At (World.alloc w5 (.cells #[.bool s5,.slice q5 ln5 c5,.int .i64 E5] 106)) (w5.heap.size) 0 (.bool s5):=⟨by simp [go_sem],by simp [go_sem]⟩
 replace A4_0:=At.below A4_0 hbw6
 have A4_1:At (World.alloc w5 (.cells #[.bool s5,.slice q5 ln5 c5,.int .i64 E5] 106)) (w5.heap.size) 1 (.slice q5 ln5 c5):=⟨by simp [go_sem],by simp [go_sem]⟩
 replace A4_1:=At.below A4_1 hbw6
 have A4_2:At (World.alloc w5 (.cells #[.bool s5,.slice q5 ln5 c5,.int .i64 E5] 106)) (w5.heap.size) 2 (.int .i64 E5):=⟨by simp [go_sem],by simp [go_sem]⟩
 replace A4_2:=At.below A4_2 hbw6
 replace B:=below_step B B.size (below_alloc (hbw6))
 clear hbw6
 have F0_0:=A0_0.1;have G0_0:=A0_0.2
 have F0_1:=A0_1.1;have G0_1:=A0_1.2
 have F0_2:=A0_2.1;have G0_2:=A0_2.2
 have F1_0:=A1_0.1;have G1_0:=A1_0.2
 have F1_1:=A1_1.1;have G1_1:=A1_1.2
 have F1_2:=A1_2.1;have G1_2:=A1_2.2
 have F2_0:=A2_0.1;have G2_0:=A2_0.2
 have F2_1:=A2_1.1;have G2_1:=A2_1.2
 have F2_2:=A2_2.1;have G2_2:=A2_2.2
 have F3_0:=A3_0.1;have G3_0:=A3_0.2
 have F3_1:=A3_1.1;have G3_1:=A3_1.2
 have F3_2:=A3_2.1;have G3_2:=A3_2.2
 have F4_0:=A4_0.1;have G4_0:=A4_0.2
 have F4_1:=A4_1.1;have G4_1:=A4_1.2
 have F4_2:=A4_2.1;have G4_2:=A4_2.2
 have Z0:=A0_0.lt
 have Z1:=A1_0.lt
 have Z2:=A2_0.lt
 have Z3:=A3_0.lt
 have Z4:=A4_0.lt
 have hr:N5.sign=(cAdd (key x) (key y) (key c)).sign:=sign_scaled (r.trans (by unfold cAdd;omega))
 go_wp2_with fail
 go_ret
 exact ⟨rfl,B⟩
end Go.Proofs.YteephgpefhodnaaGreat
namespace Go.Proofs.YteephgpefhodnaaGreat
open Go.RowKit Go.Sort Go.Fl
set_option linter.unusedSimpArgs false
set_option linter.unusedVariables false
theorem heap_new {w w1:World} {o:Obj} (hb:Below (w.alloc o).heap.size (w.alloc o) w1):w1.heap[w.heap.size]? = some o:=(hb.block _ (by simp)).trans (heap_alloc_new w o)
theorem heap_lt {w:World} {k:Nat} {x:Obj} (h:w.heap[k]? = some x):k<w.heap.size:=(Array.getElem?_eq_some_iff.1 h).1
theorem heap_keep {w w1:World} {o:Obj} {k:Nat} {x:Obj} (h:w.heap[k]? = some x) (hb:Below (w.alloc o).heap.size (w.alloc o) w1):w1.heap[k]? = some x:=by
 have hk:=heap_lt h
 refine (hb.block _ (by simp;omega)).trans ?_
 rw [heap_alloc_old _ o hk];exact h
theorem BigAt.set3 {w:World} {val:Value} {p:Nat} {N E:Int} {B:Nat} {cs:Array Value} {T:TypeId} {z:Nat × Nat} (h:BigAt w val p N E) (hb:w.heap[B]? = some (.cells cs T z)) (hT:T≠115) (b s e:Value):BigAt (((w.setCell ⟨B,0,none⟩ b).setCell ⟨B,1,none⟩ s).setCell ⟨B,2,none⟩ e) val p N E:=by
 obtain ⟨s',v,l,h1,h2,h3⟩:=h
 exact ⟨s',v,l,h1,row_stored3 h2 (row_ne h2 hb hT) b s e,h3⟩
set_option maxRecDepth 4000 in
set_option maxHeartbeats 4000000 in
theorem beyond_sub (x y c:Nat) (hx:fin x) (hy:fin y) (hc:fin c) (wx:Wd x) (wy:Wd y) (wc:Wd c) (w:World) :
  Calls Tryz.prog 81 #[.int .i64 7,.float .f64 x,.float .f64 y,.float .f64 c] w fun e w'=>e = .returned (.int .i64 ((cAdd (key x) (-key y) (key c)).sign))∧Below w.heap.size w w':=by
 have CX:=Lib.hid (fun w=>bigof_any x hx wx w)
 have CY:=Lib.hid (fun w=>bigof_any y hy wy w)
 have CC:=Lib.hid (fun w=>bigof_any (Op.negFloat .f64 c) (fin_fneg hc wc) (wd_neg wc) w)
 have kc:=k_neg wc
 have Kc:=Lib.hid kc
 clear kc
 go_enter Tryz.func81,Tryz.ntmps81
 go_wp2_with fail
 refine (CX.out _).mono ?_
 rintro e w1 ⟨⟨val,N1,E1,rfl,G1,lo1,hi1,v1⟩,hbw1⟩
 obtain ⟨s1,q1,ln1,c1,rfl⟩:=BigAt.shape G1
 have V1:=Lib.hid v1
 clear v1
 have B:=hbw1
 clear hbw1
 go_wp2_with fail
 refine (CY.out _).mono ?_
 rintro e w2 ⟨⟨val,N2,E2,rfl,G2,lo2,hi2,v2⟩,hbw2⟩
 obtain ⟨s2,q2,ln2,c2,rfl⟩:=BigAt.shape G2
 have V2:=Lib.hid v2
 clear v2
 replace G1:=BigAt.below (BigAt.alloc (G1) _) hbw2
 have nB:w.heap.size≤w1.heap.size:=B.size
 have A0_0:At (World.alloc w1 (.cells #[.bool s1,.slice q1 ln1 c1,.int .i64 E1] 106)) (w1.heap.size) 0 (.bool s1):=⟨by simp [go_sem],by simp [go_sem]⟩
 replace A0_0:=At.below A0_0 hbw2
 have A0_1:At (World.alloc w1 (.cells #[.bool s1,.slice q1 ln1 c1,.int .i64 E1] 106)) (w1.heap.size) 1 (.slice q1 ln1 c1):=⟨by simp [go_sem],by simp [go_sem]⟩
 replace A0_1:=At.below A0_1 hbw2
 have A0_2:At (World.alloc w1 (.cells #[.bool s1,.slice q1 ln1 c1,.int .i64 E1] 106)) (w1.heap.size) 2 (.int .i64 E1):=⟨by simp [go_sem],by simp [go_sem]⟩
 replace A0_2:=At.below A0_2 hbw2
 replace B:=below_step B B.size (below_alloc (hbw2))
 clear hbw2
 have F0_0:=A0_0.1;have G0_0:=A0_0.2
 have F0_1:=A0_1.1;have G0_1:=A0_1.2
 have F0_2:=A0_2.1;have G0_2:=A0_2.2
 have Z0:=A0_0.lt
 go_wp2_with fail
 refine (CC.out _).mono ?_
 rintro e w3 ⟨⟨val,N3,E3,rfl,G3,lo3,hi3,v3⟩,hbw3⟩
 obtain ⟨s3,q3,ln3,c3,rfl⟩:=BigAt.shape G3
 have HB:=heap_new hbw3
 have V3:=Lib.hid v3
 clear v3
 replace G1:=BigAt.below (BigAt.alloc (G1) _) hbw3
 replace G2:=BigAt.below (BigAt.alloc (G2) _) hbw3
 clear F0_0 G0_0 F0_1 G0_1 F0_2 G0_2 Z0
 have n1:w1.heap.size<w2.heap.size:=At.lt A0_2
 replace A0_0:=At.below (At.alloc (A0_0)) hbw3
 replace A0_1:=At.below (At.alloc (A0_1)) hbw3
 replace A0_2:=At.below (At.alloc (A0_2)) hbw3
 have A1_0:At (World.alloc w2 (.cells #[.bool s2,.slice q2 ln2 c2,.int .i64 E2] 106)) (w2.heap.size) 0 (.bool s2):=⟨by simp [go_sem],by simp [go_sem]⟩
 replace A1_0:=At.below A1_0 hbw3
 have A1_1:At (World.alloc w2 (.cells #[.bool s2,.slice q2 ln2 c2,.int .i64 E2] 106)) (w2.heap.size) 1 (.slice q2 ln2 c2):=⟨by simp [go_sem],by simp [go_sem]⟩
 replace A1_1:=At.below A1_1 hbw3
 have A1_2:At (World.alloc w2 (.cells #[.bool s2,.slice q2 ln2 c2,.int .i64 E2] 106)) (w2.heap.size) 2 (.int .i64 E2):=⟨by simp [go_sem],by simp [go_sem]⟩
 replace A1_2:=At.below A1_2 hbw3
 replace B:=below_step B B.size (below_alloc (hbw3))
 clear hbw3
 have F0_0:=A0_0.1;have G0_0:=A0_0.2
 have F0_1:=A0_1.1;have G0_1:=A0_1.2
 have F0_2:=A0_2.1;have G0_2:=A0_2.2
 have F1_0:=A1_0.1;have G1_0:=A1_0.2
 have F1_1:=A1_1.1;have G1_1:=A1_1.2
 have F1_2:=A1_2.1;have G1_2:=A1_2.2
 have Z0:=A0_0.lt
 have Z1:=A1_0.lt
 clear CX CY CC
 go_wp2_with fail
 refine (bigminus_any _ _ _ _ _ (BigAt.alloc (G2) _)).mono ?_
 rintro e w4 ⟨⟨val,rfl,G4⟩,hbw4⟩
 obtain ⟨N4,hN4⟩ : ∃ N,N = -N2:=⟨_,rfl⟩
 obtain ⟨E4,hE4⟩ : ∃ E,E=E2:=⟨_,rfl⟩
 rw [←hN4,←hE4] at G4
 replace HB:=heap_keep HB hbw4
 have HN4:=Lib.hid hN4
 have lo4 : -1074≤E4:=by omega
 have hi4:E4≤971:=by omega
 have HE4:=Lib.hid hE4
 clear hN4 hE4
 obtain ⟨s4,q4,ln4,c4,rfl⟩:=BigAt.shape G4
 replace G1:=BigAt.below (BigAt.alloc (G1) _) hbw4
 replace G2:=BigAt.below (BigAt.alloc (G2) _) hbw4
 replace G3:=BigAt.below (BigAt.alloc (G3) _) hbw4
 clear F0_0 G0_0 F0_1 G0_1 F0_2 G0_2 F1_0 G1_0 F1_1 G1_1 F1_2 G1_2 Z0 Z1
 have n2:w2.heap.size<w3.heap.size:=At.lt A1_2
 replace A0_0:=At.below (At.alloc (A0_0)) hbw4
 replace A0_1:=At.below (At.alloc (A0_1)) hbw4
 replace A0_2:=At.below (At.alloc (A0_2)) hbw4
 replace A1_0:=At.below (At.alloc (A1_0)) hbw4
 replace A1_1:=At.below (At.alloc (A1_1)) hbw4
 replace A1_2:=At.below (At.alloc (A1_2)) hbw4
 have A2_0:At (World.alloc w3 (.cells #[.bool s3,.slice q3 ln3 c3,.int .i64 E3] 106)) (w3.heap.size) 0 (.bool s3):=⟨by simp [go_sem],by simp [go_sem]⟩
 replace A2_0:=At.below A2_0 hbw4
 have A2_1:At (World.alloc w3 (.cells #[.bool s3,.slice q3 ln3 c3,.int .i64 E3] 106)) (w3.heap.size) 1 (.slice q3 ln3 c3):=⟨by simp [go_sem],by simp [go_sem]⟩
 replace A2_1:=At.below A2_1 hbw4
 have A2_2:At (World.alloc w3 (.cells #[.bool s3,.slice q3 ln3 c3,.int .i64 E3] 106)) (w3.heap.size) 2 (.int .i64 E3):=⟨by simp [go_sem],by simp [go_sem]⟩
 replace A2_2:=At.below A2_2 hbw4
 replace B:=below_step B B.size (below_alloc (hbw4))
 clear hbw4
 have F0_0:=A0_0.1;have G0_0:=A0_0.2
 have F0_1:=A0_1.1;have G0_1:=A0_1.2
 have F0_2:=A0_2.1;have G0_2:=A0_2.2
 have F1_0:=A1_0.1;have G1_0:=A1_0.2
 have F1_1:=A1_1.1;have G1_1:=A1_1.2
 have F1_2:=A1_2.1;have G1_2:=A1_2.2
 have F2_0:=A2_0.1;have G2_0:=A2_0.2
 have F2_1:=A2_1.1;have G2_1:=A2_1.2
 have F2_2:=A2_2.1;have G2_2:=A2_2.2
 have Z0:=A0_0.lt
 have Z1:=A1_0.lt
 have Z2:=A2_0.lt
 dsimp only
 iterate 4 go_step
 clear F0_0 G0_0 F0_1 G0_1 F0_2 G0_2 F1_0 G1_0 F1_1 G1_1 F1_2 G1_2 F2_0 G2_0 F2_1 G2_1 F2_2 G2_2 Z0 Z1 Z2
 replace A0_0:=At.set_blk (b':=w2.heap.size) (f':=0) A0_0 (by first|omega|(have:=B.size;omega)) (.bool s4)
 replace A0_1:=At.set_blk (b':=w2.heap.size) (f':=0) A0_1 (by first|omega|(have:=B.size;omega)) (.bool s4)
 replace A0_2:=At.set_blk (b':=w2.heap.size) (f':=0) A0_2 (by first|omega|(have:=B.size;omega)) (.bool s4)
 replace A1_0:=At.set_same A1_0 (.bool s4)
 replace A1_1:=At.set_off (f':=0) A1_1 (by decide) (.bool s4)
 replace A1_2:=At.set_off (f':=0) A1_2 (by decide) (.bool s4)
 replace A2_0:=At.set_blk (b':=w2.heap.size) (f':=0) A2_0 (by first|omega|(have:=B.size;omega)) (.bool s4)
 replace A2_1:=At.set_blk (b':=w2.heap.size) (f':=0) A2_1 (by first|omega|(have:=B.size;omega)) (.bool s4)
 replace A2_2:=At.set_blk (b':=w2.heap.size) (f':=0) A2_2 (by first|omega|(have:=B.size;omega)) (.bool s4)
 replace A0_0:=At.set_blk (b':=w2.heap.size) (f':=1) A0_0 (by first|omega|(have:=B.size;omega)) (.slice q4 ln4 c4)
 replace A0_1:=At.set_blk (b':=w2.heap.size) (f':=1) A0_1 (by first|omega|(have:=B.size;omega)) (.slice q4 ln4 c4)
 replace A0_2:=At.set_blk (b':=w2.heap.size) (f':=1) A0_2 (by first|omega|(have:=B.size;omega)) (.slice q4 ln4 c4)
 replace A1_0:=At.set_off (f':=1) A1_0 (by decide) (.slice q4 ln4 c4)
 replace A1_1:=At.set_same A1_1 (.slice q4 ln4 c4)
 replace A1_2:=At.set_off (f':=1) A1_2 (by decide) (.slice q4 ln4 c4)
 replace A2_0:=At.set_blk (b':=w2.heap.size) (f':=1) A2_0 (by first|omega|(have:=B.size;omega)) (.slice q4 ln4 c4)
 replace A2_1:=At.set_blk (b':=w2.heap.size) (f':=1) A2_1 (by first|omega|(have:=B.size;omega)) (.slice q4 ln4 c4)
 replace A2_2:=At.set_blk (b':=w2.heap.size) (f':=1) A2_2 (by first|omega|(have:=B.size;omega)) (.slice q4 ln4 c4)
 replace A0_0:=At.set_blk (b':=w2.heap.size) (f':=2) A0_0 (by first|omega|(have:=B.size;omega)) (.int .i64 E4)
 replace A0_1:=At.set_blk (b':=w2.heap.size) (f':=2) A0_1 (by first|omega|(have:=B.size;omega)) (.int .i64 E4)
 replace A0_2:=At.set_blk (b':=w2.heap.size) (f':=2) A0_2 (by first|omega|(have:=B.size;omega)) (.int .i64 E4)
 replace A1_0:=At.set_off (f':=2) A1_0 (by decide) (.int .i64 E4)
 replace A1_1:=At.set_off (f':=2) A1_1 (by decide) (.int .i64 E4)
 replace A1_2:=At.set_same A1_2 (.int .i64 E4)
 replace A2_0:=At.set_blk (b':=w2.heap.size) (f':=2) A2_0 (by first|omega|(have:=B.size;omega)) (.int .i64 E4)
 replace A2_1:=At.set_blk (b':=w2.heap.size) (f':=2) A2_1 (by first|omega|(have:=B.size;omega)) (.int .i64 E4)
 replace A2_2:=At.set_blk (b':=w2.heap.size) (f':=2) A2_2 (by first|omega|(have:=B.size;omega)) (.int .i64 E4)
 have B':Below w.heap.size w (World.setCell (World.setCell (World.setCell w4 ⟨w2.heap.size,0,none⟩ (.bool s4)) ⟨w2.heap.size,1,none⟩ (.slice q4 ln4 c4)) ⟨w2.heap.size,2,none⟩ (.int .i64 E4)):=(Below.setCell (Below.setCell (Below.setCell B (p:=⟨w2.heap.size,0,none⟩) (by first|(show w.heap.size≤w2.heap.size;omega)|(have:=B.size;show w.heap.size≤w2.heap.size;omega)) (.bool s4)) (p:=⟨w2.heap.size,1,none⟩) (by first|(show w.heap.size≤w2.heap.size;omega)|(have:=B.size;show w.heap.size≤w2.heap.size;omega)) (.slice q4 ln4 c4)) (p:=⟨w2.heap.size,2,none⟩) (by first|(show w.heap.size≤w2.heap.size;omega)|(have:=B.size;show w.heap.size≤w2.heap.size;omega)) (.int .i64 E4))
 clear B
 obtain ⟨w5,hw5⟩ : ∃ w5,w5=(World.setCell (World.setCell (World.setCell w4 ⟨w2.heap.size,0,none⟩ (.bool s4)) ⟨w2.heap.size,1,none⟩ (.slice q4 ln4 c4)) ⟨w2.heap.size,2,none⟩ (.int .i64 E4)):=⟨_,rfl⟩
 rw [←hw5]
 replace G1:=by have h:=BigAt.set3 G1 HB (by decide) (.bool s4) (.slice q4 ln4 c4) (.int .i64 E4);rw [←hw5] at h;exact h
 replace G3:=by have h:=BigAt.set3 G3 HB (by decide) (.bool s4) (.slice q4 ln4 c4) (.int .i64 E4);rw [←hw5] at h;exact h
 replace G4:=by have h:=BigAt.set3 G4 HB (by decide) (.bool s4) (.slice q4 ln4 c4) (.int .i64 E4);rw [←hw5] at h;exact h
 clear G2 HB
 replace A0_0:=At.of A0_0 hw5
 replace A0_1:=At.of A0_1 hw5
 replace A0_2:=At.of A0_2 hw5
 replace A1_0:=At.of A1_0 hw5
 replace A1_1:=At.of A1_1 hw5
 replace A1_2:=At.of A1_2 hw5
 replace A2_0:=At.of A2_0 hw5
 replace A2_1:=At.of A2_1 hw5
 replace A2_2:=At.of A2_2 hw5
 have B:=below_of B' hw5
 clear B' hw5
 have F0_0:=A0_0.1;have G0_0:=A0_0.2
 have F0_1:=A0_1.1;have G0_1:=A0_1.2
 have F0_2:=A0_2.1;have G0_2:=A0_2.2
 have F1_0:=A1_0.1;have G1_0:=A1_0.2
 have F1_1:=A1_1.1;have G1_1:=A1_1.2
 have F1_2:=A1_2.1;have G1_2:=A1_2.2
 have F2_0:=A2_0.1;have G2_0:=A2_0.2
 have F2_1:=A2_1.1;have G2_1:=A2_1.2
 have F2_2:=A2_2.1;have G2_2:=A2_2.2
 have Z0:=A0_0.lt
 have Z1:=A1_0.lt
 have Z2:=A2_0.lt
 go_wp2_with fail
 refine (bigplus_any _ _ _ _ _ _ 53 2100 (by omega) (by omega) (by omega) (by omega) (by decide) _ (BigAt.more G1 (by decide)) (BigAt.more G4 (by decide))).mono ?_
 rintro e w6 ⟨⟨val,N6,E6,rfl,G6,hE6,v6⟩,hbw6⟩
 obtain ⟨s6,q6,ln6,c6,rfl⟩:=BigAt.shape G6
 have V6:=Lib.hid v6
 have lo6 : -1074≤E6:=by omega
 have hi6:E6≤971:=by omega
 clear v6 hE6
 replace G1:=BigAt.below (G1) hbw6
 replace G3:=BigAt.below (G3) hbw6
 replace G4:=BigAt.below (G4) hbw6
 clear F0_0 G0_0 F0_1 G0_1 F0_2 G0_2 F1_0 G1_0 F1_1 G1_1 F1_2 G1_2 F2_0 G2_0 F2_1 G2_1 F2_2 G2_2 Z0 Z1 Z2
 replace A0_0:=At.below (A0_0) hbw6
 replace A0_1:=At.below (A0_1) hbw6
 replace A0_2:=At.below (A0_2) hbw6
 replace A1_0:=At.below (A1_0) hbw6
 replace A1_1:=At.below (A1_1) hbw6
 replace A1_2:=At.below (A1_2) hbw6
 replace A2_0:=At.below (A2_0) hbw6
 replace A2_1:=At.below (A2_1) hbw6
 replace A2_2:=At.below (A2_2) hbw6
 replace B:=below_step B B.size (hbw6)
 clear hbw6
 have F0_0:=A0_0.1;have G0_0:=A0_0.2
 have F0_1:=A0_1.1;have G0_1:=A0_1.2
 have F0_2:=A0_2.1;have G0_2:=A0_2.2
 have F1_0:=A1_0.1;have G1_0:=A1_0.2
 have F1_1:=A1_1.1;have G1_1:=A1_1.2
 have F1_2:=A1_2.1;have G1_2:=A1_2.2
 have F2_0:=A2_0.1;have G2_0:=A2_0.2
 have F2_1:=A2_1.1;have G2_1:=A2_1.2
 have F2_2:=A2_2.1;have G2_2:=A2_2.2
 have Z0:=A0_0.lt
 have Z1:=A1_0.lt
 have Z2:=A2_0.lt
 go_wp2_with fail
 refine (bigplus_any _ _ _ _ _ _ 2200 2100 (by omega) (by omega) (by omega) (by omega) (by decide) _ (BigAt.alloc (BigAt.more G6 (by decide)) _) (BigAt.alloc (BigAt.more G3 (by decide)) _)).mono ?_
 rintro e w7 ⟨⟨val,N7,E7,rfl,G7,hE7,v7⟩,hbw7⟩
 obtain ⟨s7,q7,ln7,c7,rfl⟩:=BigAt.shape G7
 have V7:=Lib.hid v7
 have lo7 : -1074≤E7:=by omega
 have hi7:E7≤971:=by omega
 clear v7 hE7
 replace G1:=BigAt.below (BigAt.alloc (G1) _) hbw7
 replace G3:=BigAt.below (BigAt.alloc (G3) _) hbw7
 replace G4:=BigAt.below (BigAt.alloc (G4) _) hbw7
 replace G6:=BigAt.below (BigAt.alloc (G6) _) hbw7
 clear F0_0 G0_0 F0_1 G0_1 F0_2 G0_2 F1_0 G1_0 F1_1 G1_1 F1_2 G1_2 F2_0 G2_0 F2_1 G2_1 F2_2 G2_2 Z0 Z1 Z2
 have n3:w3.heap.size<w6.heap.size:=At.lt A2_2
 replace A0_0:=At.below (At.alloc (A0_0)) hbw7
 replace A0_1:=At.below (At.alloc (A0_1)) hbw7
 replace A0_2:=At.below (At.alloc (A0_2)) hbw7
 replace A1_0:=At.below (At.alloc (A1_0)) hbw7
 replace A1_1:=At.below (At.alloc (A1_1)) hbw7
 replace A1_2:=At.below (At.alloc (A1_2)) hbw7
 replace A2_0:=At.below (At.alloc (A2_0)) hbw7
 replace A2_1:=At.below (At.alloc (A2_1)) hbw7
 replace A2_2:=At.below (At.alloc (A2_2)) hbw7
 have A3_0:At (World.alloc w6 (.cells #[.bool s6,.slice q6 ln6 c6,.int .i64 E6] 106)) (w6.heap.size) 0 (.bool s6):=⟨by simp [go_sem],by simp [go_sem]⟩
 replace A3_0:=At.below A3_0 hbw7
 have A3_1:At (World.alloc w6 (.cells #[.bool s6,.slice q6 ln6 c6,.int .i64 E6] 106)) (w6.heap.size) 1 (.slice q6 ln6 c6):=⟨by simp [go_sem],by simp [go_sem]⟩
 replace A3_1:=At.below A3_1 hbw7
 have A3_2:At (World.alloc w6 (.cells #[.bool s6,.slice q6 ln6 c6,.int .i64 E6] 106)) (w6.heap.size) 2 (.int .i64 E6):=⟨by simp [go_sem],by simp [go_sem]⟩
 replace A3_2:=At.below A3_2 hbw7
 replace B:=below_step B B.size (below_alloc (hbw7))
 clear hbw7
 have F0_0:=A0_0.1;have G0_0:=A0_0.2
 have F0_1:=A0_1.1;have G0_1:=A0_1.2
 have F0_2:=A0_2.1;have G0_2:=A0_2.2
 have F1_0:=A1_0.1;have G1_0:=A1_0.2
 have F1_1:=A1_1.1;have G1_1:=A1_1.2
 have F1_2:=A1_2.1;have G1_2:=A1_2.2
 have F2_0:=A2_0.1;have G2_0:=A2_0.2
 have F2_1:=A2_1.1;have G2_1:=A2_1.2
 have F2_2:=A2_2.1;have G2_2:=A2_2.2
 have F3_0:=A3_0.1;have G3_0:=A3_0.2
 have F3_1:=A3_1.1;have G3_1:=A3_1.2
 have F3_2:=A3_2.1;have G3_2:=A3_2.2
 have Z0:=A0_0.lt
 have Z1:=A1_0.lt
 have Z2:=A2_0.lt
 have Z3:=A3_0.lt
 have r4:=V6.out 1074 (by omega) (by omega)
 have r:=V7.out 1074 (by omega) (by omega)
 rw [show ((1074:Nat):Int)=1074 from rfl] at r r4
 rw [r4,HN4.out,HE4.out,Int.neg_mul,V1.out,V2.out,V3.out,Kc.out,V_neg] at r
 go_wp2_with fail
 refine (bigsign_any _ _ _ _ _ (BigAt.alloc (G7) _)).mono ?_
 rintro e w8 ⟨rfl,hbw8⟩
 replace G1:=BigAt.below (BigAt.alloc (G1) _) hbw8
 replace G3:=BigAt.below (BigAt.alloc (G3) _) hbw8
 replace G4:=BigAt.below (BigAt.alloc (G4) _) hbw8
 replace G6:=BigAt.below (BigAt.alloc (G6) _) hbw8
 replace G7:=BigAt.below (BigAt.alloc (G7) _) hbw8
 clear F0_0 G0_0 F0_1 G0_1 F0_2 G0_2 F1_0 G1_0 F1_1 G1_1 F1_2 G1_2 F2_0 G2_0 F2_1 G2_1 F2_2 G2_2 F3_0 G3_0 F3_1 G3_1 F3_2 G3_2 Z0 Z1 Z2 Z3
 have n4:w6.heap.size<w7.heap.size:=At.lt A3_2
 replace A0_0:=At.below (At.alloc (A0_0)) hbw8
 replace A0_1:=At.below (At.alloc (A0_1)) hbw8
 replace A0_2:=At.below (At.alloc (A0_2)) hbw8
 replace A1_0:=At.below (At.alloc (A1_0)) hbw8
 replace A1_1:=At.below (At.alloc (A1_1)) hbw8
 replace A1_2:=At.below (At.alloc (A1_2)) hbw8
 replace A2_0:=At.below (At.alloc (A2_0)) hbw8
 replace A2_1:=At.below (At.alloc (A2_1)) hbw8
 replace A2_2:=At.below (At.alloc (A2_2)) hbw8
 replace A3_0:=At.below (At.alloc (A3_0)) hbw8
 replace A3_1:=At.below (At.alloc (A3_1)) hbw8
 replace A3_2:=At.below (At.alloc (A3_2)) hbw8
 have A4_0:At (World.alloc w7 (.cells #[.bool s7,.slice q7 ln7 c7,.int .i64 E7] 106)) (w7.heap.size) 0 (.bool s7):=⟨by simp [go_sem],by simp [go_sem]⟩
 replace A4_0:=At.below A4_0 hbw8
 have A4_1:At (World.alloc w7 (.cells #[.bool s7,.slice q7 ln7 c7,.int .i64 E7] 106)) (w7.heap.size) 1 (.slice q7 ln7 c7):=⟨by simp [go_sem],by simp [go_sem]⟩
 replace A4_1:=At.below A4_1 hbw8
 have A4_2:At (World.alloc w7 (.cells #[.bool s7,.slice q7 ln7 c7,.int .i64 E7] 106)) (w7.heap.size) 2 (.int .i64 E7):=⟨by simp [go_sem],by simp [go_sem]⟩
 replace A4_2:=At.below A4_2 hbw8
 replace B:=below_step B B.size (below_alloc (hbw8))
 clear hbw8
 have F0_0:=A0_0.1;have G0_0:=A0_0.2
 have F0_1:=A0_1.1;have G0_1:=A0_1.2
 have F0_2:=A0_2.1;have G0_2:=A0_2.2
 have F1_0:=A1_0.1;have G1_0:=A1_0.2
 have F1_1:=A1_1.1;have G1_1:=A1_1.2
 have F1_2:=A1_2.1;have G1_2:=A1_2.2
 have F2_0:=A2_0.1;have G2_0:=A2_0.2
 have F2_1:=A2_1.1;have G2_1:=A2_1.2
 have F2_2:=A2_2.1;have G2_2:=A2_2.2
 have F3_0:=A3_0.1;have G3_0:=A3_0.2
 have F3_1:=A3_1.1;have G3_1:=A3_1.2
 have F3_2:=A3_2.1;have G3_2:=A3_2.2
 have F4_0:=A4_0.1;have G4_0:=A4_0.2
 have F4_1:=A4_1.1;have G4_1:=A4_1.2
 have F4_2:=A4_2.1;have G4_2:=A4_2.2
 have Z0:=A0_0.lt
 have Z1:=A1_0.lt
 have Z2:=A2_0.lt
 have Z3:=A3_0.lt
 have Z4:=A4_0.lt
 have hr:N7.sign=(cAdd (key x) (-key y) (key c)).sign:=sign_scaled (r.trans (by unfold cAdd;rw [V_neg];omega))
 go_wp2_with fail
 go_ret
 exact ⟨rfl,B⟩
end Go.Proofs.YteephgpefhodnaaGreat
namespace Go.Proofs.YteephgpefhodnaaGreat
open Go.RowKit Go.Sort Go.Fl
set_option linter.unusedSimpArgs false
set_option linter.unusedVariables false
set_option maxRecDepth 4000 in
set_option maxHeartbeats 4000000 in
theorem beyond_div_p (x y c:Nat) (hx:fin x) (hy:fin y) (hc:fin c) (wx:Wd x) (wy:Wd y) (wc:Wd c) (hs:0<key y) (w:World) :
  Calls Tryz.prog 81 #[.int .i64 9,.float .f64 x,.float .f64 y,.float .f64 c] w fun e w'=>e = .returned (.int .i64 ((cDiv (key x) (key y) (key c)).sign))∧Below w.heap.size w w':=by
 have CX:=Lib.hid (fun w=>bigof_any x hx wx w)
 have CY:=Lib.hid (fun w=>bigof_any y hy wy w)
 have CC:=Lib.hid (fun w=>bigof_any (Op.negFloat .f64 c) (fin_fneg hc wc) (wd_neg wc) w)
 have kc:=k_neg wc
 have Kc:=Lib.hid kc
 clear kc
 go_enter Tryz.func81,Tryz.ntmps81
 go_wp2_with fail
 refine (CX.out _).mono ?_
 rintro e w1 ⟨⟨val,N1,E1,rfl,G1,lo1,hi1,v1⟩,hbw1⟩
 obtain ⟨s1,q1,ln1,c1,rfl⟩:=BigAt.shape G1
 have V1:=Lib.hid v1
 clear v1
 have B:=hbw1
 clear hbw1
 go_wp2_with fail
 refine (CY.out _).mono ?_
 rintro e w2 ⟨⟨val,N2,E2,rfl,G2,lo2,hi2,v2⟩,hbw2⟩
 obtain ⟨s2,q2,ln2,c2,rfl⟩:=BigAt.shape G2
 have V2:=Lib.hid v2
 clear v2
 replace G1:=BigAt.below (BigAt.alloc (G1) _) hbw2
 have nB:w.heap.size≤w1.heap.size:=B.size
 have A0_0:At (World.alloc w1 (.cells #[.bool s1,.slice q1 ln1 c1,.int .i64 E1] 106)) (w1.heap.size) 0 (.bool s1):=⟨by simp [go_sem],by simp [go_sem]⟩
 replace A0_0:=At.below A0_0 hbw2
 have A0_1:At (World.alloc w1 (.cells #[.bool s1,.slice q1 ln1 c1,.int .i64 E1] 106)) (w1.heap.size) 1 (.slice q1 ln1 c1):=⟨by simp [go_sem],by simp [go_sem]⟩
 replace A0_1:=At.below A0_1 hbw2
 have A0_2:At (World.alloc w1 (.cells #[.bool s1,.slice q1 ln1 c1,.int .i64 E1] 106)) (w1.heap.size) 2 (.int .i64 E1):=⟨by simp [go_sem],by simp [go_sem]⟩
 replace A0_2:=At.below A0_2 hbw2
 replace B:=below_step B B.size (below_alloc (hbw2))
 clear hbw2
 have F0_0:=A0_0.1;have G0_0:=A0_0.2
 have F0_1:=A0_1.1;have G0_1:=A0_1.2
 have F0_2:=A0_2.1;have G0_2:=A0_2.2
 have Z0:=A0_0.lt
 go_wp2_with fail
 refine (CC.out _).mono ?_
 rintro e w3 ⟨⟨val,N3,E3,rfl,G3,lo3,hi3,v3⟩,hbw3⟩
 obtain ⟨s3,q3,ln3,c3,rfl⟩:=BigAt.shape G3
 have V3:=Lib.hid v3
 clear v3
 replace G1:=BigAt.below (BigAt.alloc (G1) _) hbw3
 replace G2:=BigAt.below (BigAt.alloc (G2) _) hbw3
 clear F0_0 G0_0 F0_1 G0_1 F0_2 G0_2 Z0
 have n1:w1.heap.size<w2.heap.size:=At.lt A0_2
 replace A0_0:=At.below (At.alloc (A0_0)) hbw3
 replace A0_1:=At.below (At.alloc (A0_1)) hbw3
 replace A0_2:=At.below (At.alloc (A0_2)) hbw3
 have A1_0:At (World.alloc w2 (.cells #[.bool s2,.slice q2 ln2 c2,.int .i64 E2] 106)) (w2.heap.size) 0 (.bool s2):=⟨by simp [go_sem],by simp [go_sem]⟩
 replace A1_0:=At.below A1_0 hbw3
 have A1_1:At (World.alloc w2 (.cells #[.bool s2,.slice q2 ln2 c2,.int .i64 E2] 106)) (w2.heap.size) 1 (.slice q2 ln2 c2):=⟨by simp [go_sem],by simp [go_sem]⟩
 replace A1_1:=At.below A1_1 hbw3
 have A1_2:At (World.alloc w2 (.cells #[.bool s2,.slice q2 ln2 c2,.int .i64 E2] 106)) (w2.heap.size) 2 (.int .i64 E2):=⟨by simp [go_sem],by simp [go_sem]⟩
 replace A1_2:=At.below A1_2 hbw3
 replace B:=below_step B B.size (below_alloc (hbw3))
 clear hbw3
 have F0_0:=A0_0.1;have G0_0:=A0_0.2
 have F0_1:=A0_1.1;have G0_1:=A0_1.2
 have F0_2:=A0_2.1;have G0_2:=A0_2.2
 have F1_0:=A1_0.1;have G1_0:=A1_0.2
 have F1_1:=A1_1.1;have G1_1:=A1_1.2
 have F1_2:=A1_2.1;have G1_2:=A1_2.2
 have Z0:=A0_0.lt
 have Z1:=A1_0.lt
 clear CX CY CC
 go_wp2_with fail
 refine (bigtimes_any _ _ _ _ _ _ (by omega) (by omega) _ (BigAt.alloc (G3) _) (BigAt.alloc (G2) _)).mono ?_
 rintro e w4 ⟨⟨val,rfl,G4⟩,hbw4⟩
 obtain ⟨N4,hN4⟩ : ∃ N,N=N3*N2:=⟨_,rfl⟩
 obtain ⟨E4,hE4⟩ : ∃ E,E=E3+E2:=⟨_,rfl⟩
 rw [←hN4,←hE4] at G4
 have HN4:=Lib.hid hN4
 have lo4 : -2148≤E4:=by omega
 have hi4:E4≤1942:=by omega
 have HE4:=Lib.hid hE4
 clear hN4 hE4
 obtain ⟨s4,q4,ln4,c4,rfl⟩:=BigAt.shape G4
 replace G1:=BigAt.below (BigAt.alloc (G1) _) hbw4
 replace G2:=BigAt.below (BigAt.alloc (G2) _) hbw4
 replace G3:=BigAt.below (BigAt.alloc (G3) _) hbw4
 clear F0_0 G0_0 F0_1 G0_1 F0_2 G0_2 F1_0 G1_0 F1_1 G1_1 F1_2 G1_2 Z0 Z1
 have n2:w2.heap.size<w3.heap.size:=At.lt A1_2
 replace A0_0:=At.below (At.alloc (A0_0)) hbw4
 replace A0_1:=At.below (At.alloc (A0_1)) hbw4
 replace A0_2:=At.below (At.alloc (A0_2)) hbw4
 replace A1_0:=At.below (At.alloc (A1_0)) hbw4
 replace A1_1:=At.below (At.alloc (A1_1)) hbw4
 replace A1_2:=At.below (At.alloc (A1_2)) hbw4
 have A2_0:At (World.alloc w3 (.cells #[.bool s3,.slice q3 ln3 c3,.int .i64 E3] 106)) (w3.heap.size) 0 (.bool s3):=⟨by simp [go_sem],by simp [go_sem]⟩
 replace A2_0:=At.below A2_0 hbw4
 have A2_1:At (World.alloc w3 (.cells #[.bool s3,.slice q3 ln3 c3,.int .i64 E3] 106)) (w3.heap.size) 1 (.slice q3 ln3 c3):=⟨by simp [go_sem],by simp [go_sem]⟩
 replace A2_1:=At.below A2_1 hbw4
 have A2_2:At (World.alloc w3 (.cells #[.bool s3,.slice q3 ln3 c3,.int .i64 E3] 106)) (w3.heap.size) 2 (.int .i64 E3):=⟨by simp [go_sem],by simp [go_sem]⟩
 replace A2_2:=At.below A2_2 hbw4
 replace B:=below_step B B.size (below_alloc (hbw4))
 clear hbw4
 have F0_0:=A0_0.1;have G0_0:=A0_0.2
 have F0_1:=A0_1.1;have G0_1:=A0_1.2
 have F0_2:=A0_2.1;have G0_2:=A0_2.2
 have F1_0:=A1_0.1;have G1_0:=A1_0.2
 have F1_1:=A1_1.1;have G1_1:=A1_1.2
 have F1_2:=A1_2.1;have G1_2:=A1_2.2
 have F2_0:=A2_0.1;have G2_0:=A2_0.2
 have F2_1:=A2_1.1;have G2_1:=A2_1.2
 have F2_2:=A2_2.1;have G2_2:=A2_2.2
 have Z0:=A0_0.lt
 have Z1:=A1_0.lt
 have Z2:=A2_0.lt
 go_wp2_with fail
 refine (bigplus_any _ _ _ _ _ _ 106 4000 (by omega) (by omega) (by omega) (by omega) (by decide) _ (BigAt.alloc (BigAt.more G1 (by decide)) _) (BigAt.alloc (BigAt.more G4 (by decide)) _)).mono ?_
 rintro e w5 ⟨⟨val,N5,E5,rfl,G5,hE5,v5⟩,hbw5⟩
 obtain ⟨s5,q5,ln5,c5,rfl⟩:=BigAt.shape G5
 have V5:=Lib.hid v5
 have lo5 : -2148≤E5:=by omega
 have hi5:E5≤1942:=by omega
 clear v5 hE5
 replace G1:=BigAt.below (BigAt.alloc (G1) _) hbw5
 replace G2:=BigAt.below (BigAt.alloc (G2) _) hbw5
 replace G3:=BigAt.below (BigAt.alloc (G3) _) hbw5
 replace G4:=BigAt.below (BigAt.alloc (G4) _) hbw5
 clear F0_0 G0_0 F0_1 G0_1 F0_2 G0_2 F1_0 G1_0 F1_1 G1_1 F1_2 G1_2 F2_0 G2_0 F2_1 G2_1 F2_2 G2_2 Z0 Z1 Z2
 have n3:w3.heap.size<w4.heap.size:=At.lt A2_2
 replace A0_0:=At.below (At.alloc (A0_0)) hbw5
 replace A0_1:=At.below (At.alloc (A0_1)) hbw5
 replace A0_2:=At.below (At.alloc (A0_2)) hbw5
 replace A1_0:=At.below (At.alloc (A1_0)) hbw5
 replace A1_1:=At.below (At.alloc (A1_1)) hbw5
 replace A1_2:=At.below (At.alloc (A1_2)) hbw5
 replace A2_0:=At.below (At.alloc (A2_0)) hbw5
 replace A2_1:=At.below (At.alloc (A2_1)) hbw5
 replace A2_2:=At.below (At.alloc (A2_2)) hbw5
 have A3_0:At (World.alloc w4 (.cells #[.bool s4,.slice q4 ln4 c4,.int .i64 E4] 106)) (w4.heap.size) 0 (.bool s4):=⟨by simp [go_sem],by simp [go_sem]⟩
 replace A3_0:=At.below A3_0 hbw5
 have A3_1:At (World.alloc w4 (.cells #[.bool s4,.slice q4 ln4 c4,.int .i64 E4] 106)) (w4.heap.size) 1 (.slice q4 ln4 c4):=⟨by simp [go_sem],by simp [go_sem]⟩
 replace A3_1:=At.below A3_1 hbw5
 have A3_2:At (World.alloc w4 (.cells #[.bool s4,.slice q4 ln4 c4,.int .i64 E4] 106)) (w4.heap.size) 2 (.int .i64 E4):=⟨by simp [go_sem],by simp [go_sem]⟩
 replace A3_2:=At.below A3_2 hbw5
 replace B:=below_step B B.size (below_alloc (hbw5))
 clear hbw5
 have F0_0:=A0_0.1;have G0_0:=A0_0.2
 have F0_1:=A0_1.1;have G0_1:=A0_1.2
 have F0_2:=A0_2.1;have G0_2:=A0_2.2
 have F1_0:=A1_0.1;have G1_0:=A1_0.2
 have F1_1:=A1_1.1;have G1_1:=A1_1.2
 have F1_2:=A1_2.1;have G1_2:=A1_2.2
 have F2_0:=A2_0.1;have G2_0:=A2_0.2
 have F2_1:=A2_1.1;have G2_1:=A2_1.2
 have F2_2:=A2_2.1;have G2_2:=A2_2.2
 have F3_0:=A3_0.1;have G3_0:=A3_0.2
 have F3_1:=A3_1.1;have G3_1:=A3_1.2
 have F3_2:=A3_2.1;have G3_2:=A3_2.2
 have Z0:=A0_0.lt
 have Z1:=A1_0.lt
 have Z2:=A2_0.lt
 have Z3:=A3_0.lt
 go_wp2_with fail
 refine (bigsign_any _ _ _ _ _ (BigAt.alloc (G5) _)).mono ?_
 rintro e w6 ⟨rfl,hbw6⟩
 replace G1:=BigAt.below (BigAt.alloc (G1) _) hbw6
 replace G2:=BigAt.below (BigAt.alloc (G2) _) hbw6
 replace G3:=BigAt.below (BigAt.alloc (G3) _) hbw6
 replace G4:=BigAt.below (BigAt.alloc (G4) _) hbw6
 replace G5:=BigAt.below (BigAt.alloc (G5) _) hbw6
 clear F0_0 G0_0 F0_1 G0_1 F0_2 G0_2 F1_0 G1_0 F1_1 G1_1 F1_2 G1_2 F2_0 G2_0 F2_1 G2_1 F2_2 G2_2 F3_0 G3_0 F3_1 G3_1 F3_2 G3_2 Z0 Z1 Z2 Z3
 have n4:w4.heap.size<w5.heap.size:=At.lt A3_2
 replace A0_0:=At.below (At.alloc (A0_0)) hbw6
 replace A0_1:=At.below (At.alloc (A0_1)) hbw6
 replace A0_2:=At.below (At.alloc (A0_2)) hbw6
 replace A1_0:=At.below (At.alloc (A1_0)) hbw6
 replace A1_1:=At.below (At.alloc (A1_1)) hbw6
 replace A1_2:=At.below (At.alloc (A1_2)) hbw6
 replace A2_0:=At.below (At.alloc (A2_0)) hbw6
 replace A2_1:=At.below (At.alloc (A2_1)) hbw6
 replace A2_2:=At.below (At.alloc (A2_2)) hbw6
 replace A3_0:=At.below (At.alloc (A3_0)) hbw6
 replace A3_1:=At.below (At.alloc (A3_1)) hbw6
 replace A3_2:=At.below (At.alloc (A3_2)) hbw6
 have A4_0:At (World.alloc w5 (.cells #[.bool s5,.slice q5 ln5 c5,.int .i64 E5] 106)) (w5.heap.size) 0 (.bool s5):=⟨by simp [go_sem],by simp [go_sem]⟩
 replace A4_0:=At.below A4_0 hbw6
 have A4_1:At (World.alloc w5 (.cells #[.bool s5,.slice q5 ln5 c5,.int .i64 E5] 106)) (w5.heap.size) 1 (.slice q5 ln5 c5):=⟨by simp [go_sem],by simp [go_sem]⟩
 replace A4_1:=At.below A4_1 hbw6
 have A4_2:At (World.alloc w5 (.cells #[.bool s5,.slice q5 ln5 c5,.int .i64 E5] 106)) (w5.heap.size) 2 (.int .i64 E5):=⟨by simp [go_sem],by simp [go_sem]⟩
 replace A4_2:=At.below A4_2 hbw6
 replace B:=below_step B B.size (below_alloc (hbw6))
 clear hbw6
 have F0_0:=A0_0.1;have G0_0:=A0_0.2
 have F0_1:=A0_1.1;have G0_1:=A0_1.2
 have F0_2:=A0_2.1;have G0_2:=A0_2.2
 have F1_0:=A1_0.1;have G1_0:=A1_0.2
 have F1_1:=A1_1.1;have G1_1:=A1_1.2
 have F1_2:=A1_2.1;have G1_2:=A1_2.2
 have F2_0:=A2_0.1;have G2_0:=A2_0.2
 have F2_1:=A2_1.1;have G2_1:=A2_1.2
 have F2_2:=A2_2.1;have G2_2:=A2_2.2
 have F3_0:=A3_0.1;have G3_0:=A3_0.2
 have F3_1:=A3_1.1;have G3_1:=A3_1.2
 have F3_2:=A3_2.1;have G3_2:=A3_2.2
 have F4_0:=A4_0.1;have G4_0:=A4_0.2
 have F4_1:=A4_1.1;have G4_1:=A4_1.2
 have F4_2:=A4_2.1;have G4_2:=A4_2.2
 have Z0:=A0_0.lt
 have Z1:=A1_0.lt
 have Z2:=A2_0.lt
 have Z3:=A3_0.lt
 have Z4:=A4_0.lt
 have r:=V5.out 2148 (by omega) (by omega)
 rw [HN4.out,HE4.out,mul_pow V3.out V2.out lo3 lo2,two_pow V1.out lo1,Kc.out,V_neg] at r
 have hr:N5.sign=(cDiv (key x) (key y) (key c)).sign:=sign_scaled (r.trans (by unfold cDiv;rw [if_pos hs,Int.neg_mul];omega))
 have hy1 : ¬nan y:=by unfold nan;unfold fin at hy;omega
 go_wp2_with fail
 go_ret
 exact ⟨rfl,B⟩
set_option maxRecDepth 4000 in
set_option maxHeartbeats 4000000 in
theorem beyond_div_n (x y c:Nat) (hx:fin x) (hy:fin y) (hc:fin c) (wx:Wd x) (wy:Wd y) (wc:Wd c) (hs:key y<0) (w:World) :
  Calls Tryz.prog 81 #[.int .i64 9,.float .f64 x,.float .f64 y,.float .f64 c] w fun e w'=>e = .returned (.int .i64 ((cDiv (key x) (key y) (key c)).sign))∧Below w.heap.size w w':=by
 have CX:=Lib.hid (fun w=>bigof_any x hx wx w)
 have CY:=Lib.hid (fun w=>bigof_any y hy wy w)
 have CC:=Lib.hid (fun w=>bigof_any (Op.negFloat .f64 c) (fin_fneg hc wc) (wd_neg wc) w)
 have kc:=k_neg wc
 have Kc:=Lib.hid kc
 clear kc
 go_enter Tryz.func81,Tryz.ntmps81
 go_wp2_with fail
 refine (CX.out _).mono ?_
 rintro e w1 ⟨⟨val,N1,E1,rfl,G1,lo1,hi1,v1⟩,hbw1⟩
 obtain ⟨s1,q1,ln1,c1,rfl⟩:=BigAt.shape G1
 have V1:=Lib.hid v1
 clear v1
 have B:=hbw1
 clear hbw1
 go_wp2_with fail
 refine (CY.out _).mono ?_
 rintro e w2 ⟨⟨val,N2,E2,rfl,G2,lo2,hi2,v2⟩,hbw2⟩
 obtain ⟨s2,q2,ln2,c2,rfl⟩:=BigAt.shape G2
 have V2:=Lib.hid v2
 clear v2
 replace G1:=BigAt.below (BigAt.alloc (G1) _) hbw2
 have nB:w.heap.size≤w1.heap.size:=B.size
 have A0_0:At (World.alloc w1 (.cells #[.bool s1,.slice q1 ln1 c1,.int .i64 E1] 106)) (w1.heap.size) 0 (.bool s1):=⟨by simp [go_sem],by simp [go_sem]⟩
 replace A0_0:=At.below A0_0 hbw2
 have A0_1:At (World.alloc w1 (.cells #[.bool s1,.slice q1 ln1 c1,.int .i64 E1] 106)) (w1.heap.size) 1 (.slice q1 ln1 c1):=⟨by simp [go_sem],by simp [go_sem]⟩
 replace A0_1:=At.below A0_1 hbw2
 have A0_2:At (World.alloc w1 (.cells #[.bool s1,.slice q1 ln1 c1,.int .i64 E1] 106)) (w1.heap.size) 2 (.int .i64 E1):=⟨by simp [go_sem],by simp [go_sem]⟩
 replace A0_2:=At.below A0_2 hbw2
 replace B:=below_step B B.size (below_alloc (hbw2))
 clear hbw2
 have F0_0:=A0_0.1;have G0_0:=A0_0.2
 have F0_1:=A0_1.1;have G0_1:=A0_1.2
 have F0_2:=A0_2.1;have G0_2:=A0_2.2
 have Z0:=A0_0.lt
 go_wp2_with fail
 refine (CC.out _).mono ?_
 rintro e w3 ⟨⟨val,N3,E3,rfl,G3,lo3,hi3,v3⟩,hbw3⟩
 obtain ⟨s3,q3,ln3,c3,rfl⟩:=BigAt.shape G3
 have V3:=Lib.hid v3
 clear v3
 replace G1:=BigAt.below (BigAt.alloc (G1) _) hbw3
 replace G2:=BigAt.below (BigAt.alloc (G2) _) hbw3
 clear F0_0 G0_0 F0_1 G0_1 F0_2 G0_2 Z0
 have n1:w1.heap.size<w2.heap.size:=At.lt A0_2
 replace A0_0:=At.below (At.alloc (A0_0)) hbw3
 replace A0_1:=At.below (At.alloc (A0_1)) hbw3
 replace A0_2:=At.below (At.alloc (A0_2)) hbw3
 have A1_0:At (World.alloc w2 (.cells #[.bool s2,.slice q2 ln2 c2,.int .i64 E2] 106)) (w2.heap.size) 0 (.bool s2):=⟨by simp [go_sem],by simp [go_sem]⟩
 replace A1_0:=At.below A1_0 hbw3
 have A1_1:At (World.alloc w2 (.cells #[.bool s2,.slice q2 ln2 c2,.int .i64 E2] 106)) (w2.heap.size) 1 (.slice q2 ln2 c2):=⟨by simp [go_sem],by simp [go_sem]⟩
 replace A1_1:=At.below A1_1 hbw3
 have A1_2:At (World.alloc w2 (.cells #[.bool s2,.slice q2 ln2 c2,.int .i64 E2] 106)) (w2.heap.size) 2 (.int .i64 E2):=⟨by simp [go_sem],by simp [go_sem]⟩
 replace A1_2:=At.below A1_2 hbw3
 replace B:=below_step B B.size (below_alloc (hbw3))
 clear hbw3
 have F0_0:=A0_0.1;have G0_0:=A0_0.2
 have F0_1:=A0_1.1;have G0_1:=A0_1.2
 have F0_2:=A0_2.1;have G0_2:=A0_2.2
 have F1_0:=A1_0.1;have G1_0:=A1_0.2
 have F1_1:=A1_1.1;have G1_1:=A1_1.2
 have F1_2:=A1_2.1;have G1_2:=A1_2.2
 have Z0:=A0_0.lt
 have Z1:=A1_0.lt
 clear CX CY CC
 go_wp2_with fail
 refine (bigtimes_any _ _ _ _ _ _ (by omega) (by omega) _ (BigAt.alloc (G3) _) (BigAt.alloc (G2) _)).mono ?_
 rintro e w4 ⟨⟨val,rfl,G4⟩,hbw4⟩
 obtain ⟨N4,hN4⟩ : ∃ N,N=N3*N2:=⟨_,rfl⟩
 obtain ⟨E4,hE4⟩ : ∃ E,E=E3+E2:=⟨_,rfl⟩
 rw [←hN4,←hE4] at G4
 have HN4:=Lib.hid hN4
 have lo4 : -2148≤E4:=by omega
 have hi4:E4≤1942:=by omega
 have HE4:=Lib.hid hE4
 clear hN4 hE4
 obtain ⟨s4,q4,ln4,c4,rfl⟩:=BigAt.shape G4
 replace G1:=BigAt.below (BigAt.alloc (G1) _) hbw4
 replace G2:=BigAt.below (BigAt.alloc (G2) _) hbw4
 replace G3:=BigAt.below (BigAt.alloc (G3) _) hbw4
 clear F0_0 G0_0 F0_1 G0_1 F0_2 G0_2 F1_0 G1_0 F1_1 G1_1 F1_2 G1_2 Z0 Z1
 have n2:w2.heap.size<w3.heap.size:=At.lt A1_2
 replace A0_0:=At.below (At.alloc (A0_0)) hbw4
 replace A0_1:=At.below (At.alloc (A0_1)) hbw4
 replace A0_2:=At.below (At.alloc (A0_2)) hbw4
 replace A1_0:=At.below (At.alloc (A1_0)) hbw4
 replace A1_1:=At.below (At.alloc (A1_1)) hbw4
 replace A1_2:=At.below (At.alloc (A1_2)) hbw4
 have A2_0:At (World.alloc w3 (.cells #[.bool s3,.slice q3 ln3 c3,.int .i64 E3] 106)) (w3.heap.size) 0 (.bool s3):=⟨by simp [go_sem],by simp [go_sem]⟩
 replace A2_0:=At.below A2_0 hbw4
 have A2_1:At (World.alloc w3 (.cells #[.bool s3,.slice q3 ln3 c3,.int .i64 E3] 106)) (w3.heap.size) 1 (.slice q3 ln3 c3):=⟨by simp [go_sem],by simp [go_sem]⟩
 replace A2_1:=At.below A2_1 hbw4
 have A2_2:At (World.alloc w3 (.cells #[.bool s3,.slice q3 ln3 c3,.int .i64 E3] 106)) (w3.heap.size) 2 (.int .i64 E3):=⟨by simp [go_sem],by simp [go_sem]⟩
 replace A2_2:=At.below A2_2 hbw4
 replace B:=below_step B B.size (below_alloc (hbw4))
 clear hbw4
 have F0_0:=A0_0.1;have G0_0:=A0_0.2
 have F0_1:=A0_1.1;have G0_1:=A0_1.2
 have F0_2:=A0_2.1;have G0_2:=A0_2.2
 have F1_0:=A1_0.1;have G1_0:=A1_0.2
 have F1_1:=A1_1.1;have G1_1:=A1_1.2
 have F1_2:=A1_2.1;have G1_2:=A1_2.2
 have F2_0:=A2_0.1;have G2_0:=A2_0.2
 have F2_1:=A2_1.1;have G2_1:=A2_1.2
 have F2_2:=A2_2.1;have G2_2:=A2_2.2
 have Z0:=A0_0.lt
 have Z1:=A1_0.lt
 have Z2:=A2_0.lt
 go_wp2_with fail
 refine (bigplus_any _ _ _ _ _ _ 106 4000 (by omega) (by omega) (by omega) (by omega) (by decide) _ (BigAt.alloc (BigAt.more G1 (by decide)) _) (BigAt.alloc (BigAt.more G4 (by decide)) _)).mono ?_
 rintro e w5 ⟨⟨val,N5,E5,rfl,G5,hE5,v5⟩,hbw5⟩
 obtain ⟨s5,q5,ln5,c5,rfl⟩:=BigAt.shape G5
 have V5:=Lib.hid v5
 have lo5 : -2148≤E5:=by omega
 have hi5:E5≤1942:=by omega
 clear v5 hE5
 replace G1:=BigAt.below (BigAt.alloc (G1) _) hbw5
 replace G2:=BigAt.below (BigAt.alloc (G2) _) hbw5
 replace G3:=BigAt.below (BigAt.alloc (G3) _) hbw5
 replace G4:=BigAt.below (BigAt.alloc (G4) _) hbw5
 clear F0_0 G0_0 F0_1 G0_1 F0_2 G0_2 F1_0 G1_0 F1_1 G1_1 F1_2 G1_2 F2_0 G2_0 F2_1 G2_1 F2_2 G2_2 Z0 Z1 Z2
 have n3:w3.heap.size<w4.heap.size:=At.lt A2_2
 replace A0_0:=At.below (At.alloc (A0_0)) hbw5
 replace A0_1:=At.below (At.alloc (A0_1)) hbw5
 replace A0_2:=At.below (At.alloc (A0_2)) hbw5
 replace A1_0:=At.below (At.alloc (A1_0)) hbw5
 replace A1_1:=At.below (At.alloc (A1_1)) hbw5
 replace A1_2:=At.below (At.alloc (A1_2)) hbw5
 replace A2_0:=At.below (At.alloc (A2_0)) hbw5
 replace A2_1:=At.below (At.alloc (A2_1)) hbw5
 replace A2_2:=At.below (At.alloc (A2_2)) hbw5
 have A3_0:At (World.alloc w4 (.cells #[.bool s4,.slice q4 ln4 c4,.int .i64 E4] 106)) (w4.heap.size) 0 (.bool s4):=⟨by simp [go_sem],by simp [go_sem]⟩
 replace A3_0:=At.below A3_0 hbw5
 have A3_1:At (World.alloc w4 (.cells #[.bool s4,.slice q4 ln4 c4,.int .i64 E4] 106)) (w4.heap.size) 1 (.slice q4 ln4 c4):=⟨by simp [go_sem],by simp [go_sem]⟩
 replace A3_1:=At.below A3_1 hbw5
 have A3_2:At (World.alloc w4 (.cells #[.bool s4,.slice q4 ln4 c4,.int .i64 E4] 106)) (w4.heap.size) 2 (.int .i64 E4):=⟨by simp [go_sem],by simp [go_sem]⟩
 replace A3_2:=At.below A3_2 hbw5
 replace B:=below_step B B.size (below_alloc (hbw5))
 clear hbw5
 have F0_0:=A0_0.1;have G0_0:=A0_0.2
 have F0_1:=A0_1.1;have G0_1:=A0_1.2
 have F0_2:=A0_2.1;have G0_2:=A0_2.2
 have F1_0:=A1_0.1;have G1_0:=A1_0.2
 have F1_1:=A1_1.1;have G1_1:=A1_1.2
 have F1_2:=A1_2.1;have G1_2:=A1_2.2
 have F2_0:=A2_0.1;have G2_0:=A2_0.2
 have F2_1:=A2_1.1;have G2_1:=A2_1.2
 have F2_2:=A2_2.1;have G2_2:=A2_2.2
 have F3_0:=A3_0.1;have G3_0:=A3_0.2
 have F3_1:=A3_1.1;have G3_1:=A3_1.2
 have F3_2:=A3_2.1;have G3_2:=A3_2.2
 have Z0:=A0_0.lt
 have Z1:=A1_0.lt
 have Z2:=A2_0.lt
 have Z3:=A3_0.lt
 go_wp2_with fail
 refine (bigsign_any _ _ _ _ _ (BigAt.alloc (G5) _)).mono ?_
 rintro e w6 ⟨rfl,hbw6⟩
 replace G1:=BigAt.below (BigAt.alloc (G1) _) hbw6
 replace G2:=BigAt.below (BigAt.alloc (G2) _) hbw6
 replace G3:=BigAt.below (BigAt.alloc (G3) _) hbw6
 replace G4:=BigAt.below (BigAt.alloc (G4) _) hbw6
 replace G5:=BigAt.below (BigAt.alloc (G5) _) hbw6
 clear F0_0 G0_0 F0_1 G0_1 F0_2 G0_2 F1_0 G1_0 F1_1 G1_1 F1_2 G1_2 F2_0 G2_0 F2_1 G2_1 F2_2 G2_2 F3_0 G3_0 F3_1 G3_1 F3_2 G3_2 Z0 Z1 Z2 Z3
 have n4:w4.heap.size<w5.heap.size:=At.lt A3_2
 replace A0_0:=At.below (At.alloc (A0_0)) hbw6
 replace A0_1:=At.below (At.alloc (A0_1)) hbw6
 replace A0_2:=At.below (At.alloc (A0_2)) hbw6
 replace A1_0:=At.below (At.alloc (A1_0)) hbw6
 replace A1_1:=At.below (At.alloc (A1_1)) hbw6
 replace A1_2:=At.below (At.alloc (A1_2)) hbw6
 replace A2_0:=At.below (At.alloc (A2_0)) hbw6
 replace A2_1:=At.below (At.alloc (A2_1)) hbw6
 replace A2_2:=At.below (At.alloc (A2_2)) hbw6
 replace A3_0:=At.below (At.alloc (A3_0)) hbw6
 replace A3_1:=At.below (At.alloc (A3_1)) hbw6
 replace A3_2:=At.below (At.alloc (A3_2)) hbw6
 have A4_0:At (World.alloc w5 (.cells #[.bool s5,.slice q5 ln5 c5,.int .i64 E5] 106)) (w5.heap.size) 0 (.bool s5):=⟨by simp [go_sem],by simp [go_sem]⟩
 replace A4_0:=At.below A4_0 hbw6
 have A4_1:At (World.alloc w5 (.cells #[.bool s5,.slice q5 ln5 c5,.int .i64 E5] 106)) (w5.heap.size) 1 (.slice q5 ln5 c5):=⟨by simp [go_sem],by simp [go_sem]⟩
 replace A4_1:=At.below A4_1 hbw6
 have A4_2:At (World.alloc w5 (.cells #[.bool s5,.slice q5 ln5 c5,.int .i64 E5] 106)) (w5.heap.size) 2 (.int .i64 E5):=⟨by simp [go_sem],by simp [go_sem]⟩
 replace A4_2:=At.below A4_2 hbw6
 replace B:=below_step B B.size (below_alloc (hbw6))
 clear hbw6
 have F0_0:=A0_0.1;have G0_0:=A0_0.2
 have F0_1:=A0_1.1;have G0_1:=A0_1.2
 have F0_2:=A0_2.1;have G0_2:=A0_2.2
 have F1_0:=A1_0.1;have G1_0:=A1_0.2
 have F1_1:=A1_1.1;have G1_1:=A1_1.2
 have F1_2:=A1_2.1;have G1_2:=A1_2.2
 have F2_0:=A2_0.1;have G2_0:=A2_0.2
 have F2_1:=A2_1.1;have G2_1:=A2_1.2
 have F2_2:=A2_2.1;have G2_2:=A2_2.2
 have F3_0:=A3_0.1;have G3_0:=A3_0.2
 have F3_1:=A3_1.1;have G3_1:=A3_1.2
 have F3_2:=A3_2.1;have G3_2:=A3_2.2
 have F4_0:=A4_0.1;have G4_0:=A4_0.2
 have F4_1:=A4_1.1;have G4_1:=A4_1.2
 have F4_2:=A4_2.1;have G4_2:=A4_2.2
 have Z0:=A0_0.lt
 have Z1:=A1_0.lt
 have Z2:=A2_0.lt
 have Z3:=A3_0.lt
 have Z4:=A4_0.lt
 have r:=V5.out 2148 (by omega) (by omega)
 rw [HN4.out,HE4.out,mul_pow V3.out V2.out lo3 lo2,two_pow V1.out lo1,Kc.out,V_neg] at r
 have hr : -N5.sign=(cDiv (key x) (key y) (key c)).sign:=by
  rw [←Int.sign_neg]
  refine sign_scaled (k:=(E5+((2148:Nat):Int)).toNat) ?_
  rw [Int.neg_mul,r]
  unfold cDiv
  rw [if_neg (by omega),Int.neg_mul]
  omega
 have hb1:=Int.sign_eq_one_iff_pos (a:=N5)
 have hlo : -1≤N5.sign∧N5.sign≤1:=by
                       rcases Int.lt_trichotomy N5 0 with h|h|h
                       ·rw [Int.sign_eq_neg_one_of_neg h];omega
                       ·rw [h];decide
                       ·rw [Int.sign_eq_one_of_pos h];omega
 have hy1 : ¬nan y:=by unfold nan;unfold fin at hy;omega
 go_wp2_with fail
 go_ret
 exact ⟨rfl,B⟩
end Go.Proofs.YteephgpefhodnaaGreat
namespace Go.Proofs.YteephgpefhodnaaGreat
open Go.RowKit Go.Sort Go.Fl
set_option linter.unusedSimpArgs false
set_option linter.unusedVariables false
set_option maxRecDepth 4000 in
set_option maxHeartbeats 4000000 in
theorem beyond_sqrt (x y c:Nat) (hx:fin x) (hy:fin y) (hc:fin c) (wx:Wd x) (wy:Wd y) (wc:Wd c) (hs:0≤key c) (hnc : ¬nan c) (w:World) :
  Calls Tryz.prog 81 #[.int .i64 3,.float .f64 x,.float .f64 y,.float .f64 c] w fun e w'=>e = .returned (.int .i64 ((cSqrt (key x) (key c)).sign))∧Below w.heap.size w w':=by
 have CX:=Lib.hid (fun w=>bigof_any x hx wx w)
 have CY:=Lib.hid (fun w=>bigof_any y hy wy w)
 have CC:=Lib.hid (fun w=>bigof_any (Op.negFloat .f64 c) (fin_fneg hc wc) (wd_neg wc) w)
 have kc:=k_neg wc
 have Kc:=Lib.hid kc
 clear kc
 go_enter Tryz.func81,Tryz.ntmps81
 go_wp2_with fail
 refine (CX.out _).mono ?_
 rintro e w1 ⟨⟨val,N1,E1,rfl,G1,lo1,hi1,v1⟩,hbw1⟩
 obtain ⟨s1,q1,ln1,c1,rfl⟩:=BigAt.shape G1
 have V1:=Lib.hid v1
 clear v1
 have B:=hbw1
 clear hbw1
 go_wp2_with fail
 refine (CY.out _).mono ?_
 rintro e w2 ⟨⟨val,N2,E2,rfl,G2,lo2,hi2,v2⟩,hbw2⟩
 obtain ⟨s2,q2,ln2,c2,rfl⟩:=BigAt.shape G2
 have V2:=Lib.hid v2
 clear v2
 replace G1:=BigAt.below (BigAt.alloc (G1) _) hbw2
 have nB:w.heap.size≤w1.heap.size:=B.size
 have A0_0:At (World.alloc w1 (.cells #[.bool s1,.slice q1 ln1 c1,.int .i64 E1] 106)) (w1.heap.size) 0 (.bool s1):=⟨by simp [go_sem],by simp [go_sem]⟩
 replace A0_0:=At.below A0_0 hbw2
 have A0_1:At (World.alloc w1 (.cells #[.bool s1,.slice q1 ln1 c1,.int .i64 E1] 106)) (w1.heap.size) 1 (.slice q1 ln1 c1):=⟨by simp [go_sem],by simp [go_sem]⟩
 replace A0_1:=At.below A0_1 hbw2
 have A0_2:At (World.alloc w1 (.cells #[.bool s1,.slice q1 ln1 c1,.int .i64 E1] 106)) (w1.heap.size) 2 (.int .i64 E1):=⟨by simp [go_sem],by simp [go_sem]⟩
 replace A0_2:=At.below A0_2 hbw2
 replace B:=below_step B B.size (below_alloc (hbw2))
 clear hbw2
 have F0_0:=A0_0.1;have G0_0:=A0_0.2
 have F0_1:=A0_1.1;have G0_1:=A0_1.2
 have F0_2:=A0_2.1;have G0_2:=A0_2.2
 have Z0:=A0_0.lt
 go_wp2_with fail
 refine (CC.out _).mono ?_
 rintro e w3 ⟨⟨val,N3,E3,rfl,G3,lo3,hi3,v3⟩,hbw3⟩
 obtain ⟨s3,q3,ln3,c3,rfl⟩:=BigAt.shape G3
 have V3:=Lib.hid v3
 clear v3
 replace G1:=BigAt.below (BigAt.alloc (G1) _) hbw3
 replace G2:=BigAt.below (BigAt.alloc (G2) _) hbw3
 clear F0_0 G0_0 F0_1 G0_1 F0_2 G0_2 Z0
 have n1:w1.heap.size<w2.heap.size:=At.lt A0_2
 replace A0_0:=At.below (At.alloc (A0_0)) hbw3
 replace A0_1:=At.below (At.alloc (A0_1)) hbw3
 replace A0_2:=At.below (At.alloc (A0_2)) hbw3
 have A1_0:At (World.alloc w2 (.cells #[.bool s2,.slice q2 ln2 c2,.int .i64 E2] 106)) (w2.heap.size) 0 (.bool s2):=⟨by simp [go_sem],by simp [go_sem]⟩
 replace A1_0:=At.below A1_0 hbw3
 have A1_1:At (World.alloc w2 (.cells #[.bool s2,.slice q2 ln2 c2,.int .i64 E2] 106)) (w2.heap.size) 1 (.slice q2 ln2 c2):=⟨by simp [go_sem],by simp [go_sem]⟩
 replace A1_1:=At.below A1_1 hbw3
 have A1_2:At (World.alloc w2 (.cells #[.bool s2,.slice q2 ln2 c2,.int .i64 E2] 106)) (w2.heap.size) 2 (.int .i64 E2):=⟨by simp [go_sem],by simp [go_sem]⟩
 replace A1_2:=At.below A1_2 hbw3
 replace B:=below_step B B.size (below_alloc (hbw3))
 clear hbw3
 have F0_0:=A0_0.1;have G0_0:=A0_0.2
 have F0_1:=A0_1.1;have G0_1:=A0_1.2
 have F0_2:=A0_2.1;have G0_2:=A0_2.2
 have F1_0:=A1_0.1;have G1_0:=A1_0.2
 have F1_1:=A1_1.1;have G1_1:=A1_1.2
 have F1_2:=A1_2.1;have G1_2:=A1_2.2
 have Z0:=A0_0.lt
 have Z1:=A1_0.lt
 clear CX CY CC
 go_wp2_with fail
 refine (bigtimes_any _ _ _ _ _ _ (by omega) (by omega) _ (BigAt.alloc (G3) _) (BigAt.alloc (G3) _)).mono ?_
 rintro e w4 ⟨⟨val,rfl,G4⟩,hbw4⟩
 obtain ⟨N4,hN4⟩ : ∃ N,N=N3*N3:=⟨_,rfl⟩
 obtain ⟨E4,hE4⟩ : ∃ E,E=E3+E3:=⟨_,rfl⟩
 rw [←hN4,←hE4] at G4
 have HN4:=Lib.hid hN4
 have lo4 : -2148≤E4:=by omega
 have hi4:E4≤1942:=by omega
 have HE4:=Lib.hid hE4
 clear hN4 hE4
 obtain ⟨s4,q4,ln4,c4,rfl⟩:=BigAt.shape G4
 replace G1:=BigAt.below (BigAt.alloc (G1) _) hbw4
 replace G2:=BigAt.below (BigAt.alloc (G2) _) hbw4
 replace G3:=BigAt.below (BigAt.alloc (G3) _) hbw4
 clear F0_0 G0_0 F0_1 G0_1 F0_2 G0_2 F1_0 G1_0 F1_1 G1_1 F1_2 G1_2 Z0 Z1
 have n2:w2.heap.size<w3.heap.size:=At.lt A1_2
 replace A0_0:=At.below (At.alloc (A0_0)) hbw4
 replace A0_1:=At.below (At.alloc (A0_1)) hbw4
 replace A0_2:=At.below (At.alloc (A0_2)) hbw4
 replace A1_0:=At.below (At.alloc (A1_0)) hbw4
 replace A1_1:=At.below (At.alloc (A1_1)) hbw4
 replace A1_2:=At.below (At.alloc (A1_2)) hbw4
 have A2_0:At (World.alloc w3 (.cells #[.bool s3,.slice q3 ln3 c3,.int .i64 E3] 106)) (w3.heap.size) 0 (.bool s3):=⟨by simp [go_sem],by simp [go_sem]⟩
 replace A2_0:=At.below A2_0 hbw4
 have A2_1:At (World.alloc w3 (.cells #[.bool s3,.slice q3 ln3 c3,.int .i64 E3] 106)) (w3.heap.size) 1 (.slice q3 ln3 c3):=⟨by simp [go_sem],by simp [go_sem]⟩
 replace A2_1:=At.below A2_1 hbw4
 have A2_2:At (World.alloc w3 (.cells #[.bool s3,.slice q3 ln3 c3,.int .i64 E3] 106)) (w3.heap.size) 2 (.int .i64 E3):=⟨by simp [go_sem],by simp [go_sem]⟩
 replace A2_2:=At.below A2_2 hbw4
 replace B:=below_step B B.size (below_alloc (hbw4))
 clear hbw4
 have F0_0:=A0_0.1;have G0_0:=A0_0.2
 have F0_1:=A0_1.1;have G0_1:=A0_1.2
 have F0_2:=A0_2.1;have G0_2:=A0_2.2
 have F1_0:=A1_0.1;have G1_0:=A1_0.2
 have F1_1:=A1_1.1;have G1_1:=A1_1.2
 have F1_2:=A1_2.1;have G1_2:=A1_2.2
 have F2_0:=A2_0.1;have G2_0:=A2_0.2
 have F2_1:=A2_1.1;have G2_1:=A2_1.2
 have F2_2:=A2_2.1;have G2_2:=A2_2.2
 have Z0:=A0_0.lt
 have Z1:=A1_0.lt
 have Z2:=A2_0.lt
 go_wp2_with fail
 refine (bigminus_any _ _ _ _ _ (BigAt.alloc (G4) _)).mono ?_
 rintro e w5 ⟨⟨val,rfl,G5⟩,hbw5⟩
 obtain ⟨N5,hN5⟩ : ∃ N,N = -N4:=⟨_,rfl⟩
 obtain ⟨E5,hE5⟩ : ∃ E,E=E4:=⟨_,rfl⟩
 rw [←hN5,←hE5] at G5
 have HN5:=Lib.hid hN5
 have lo5 : -2148≤E5:=by omega
 have hi5:E5≤1942:=by omega
 have HE5:=Lib.hid hE5
 clear hN5 hE5
 obtain ⟨s5,q5,ln5,c5,rfl⟩:=BigAt.shape G5
 replace G1:=BigAt.below (BigAt.alloc (G1) _) hbw5
 replace G2:=BigAt.below (BigAt.alloc (G2) _) hbw5
 replace G3:=BigAt.below (BigAt.alloc (G3) _) hbw5
 replace G4:=BigAt.below (BigAt.alloc (G4) _) hbw5
 clear F0_0 G0_0 F0_1 G0_1 F0_2 G0_2 F1_0 G1_0 F1_1 G1_1 F1_2 G1_2 F2_0 G2_0 F2_1 G2_1 F2_2 G2_2 Z0 Z1 Z2
 have n3:w3.heap.size<w4.heap.size:=At.lt A2_2
 replace A0_0:=At.below (At.alloc (A0_0)) hbw5
 replace A0_1:=At.below (At.alloc (A0_1)) hbw5
 replace A0_2:=At.below (At.alloc (A0_2)) hbw5
 replace A1_0:=At.below (At.alloc (A1_0)) hbw5
 replace A1_1:=At.below (At.alloc (A1_1)) hbw5
 replace A1_2:=At.below (At.alloc (A1_2)) hbw5
 replace A2_0:=At.below (At.alloc (A2_0)) hbw5
 replace A2_1:=At.below (At.alloc (A2_1)) hbw5
 replace A2_2:=At.below (At.alloc (A2_2)) hbw5
 have A3_0:At (World.alloc w4 (.cells #[.bool s4,.slice q4 ln4 c4,.int .i64 E4] 106)) (w4.heap.size) 0 (.bool s4):=⟨by simp [go_sem],by simp [go_sem]⟩
 replace A3_0:=At.below A3_0 hbw5
 have A3_1:At (World.alloc w4 (.cells #[.bool s4,.slice q4 ln4 c4,.int .i64 E4] 106)) (w4.heap.size) 1 (.slice q4 ln4 c4):=⟨by simp [go_sem],by simp [go_sem]⟩
 replace A3_1:=At.below A3_1 hbw5
 have A3_2:At (World.alloc w4 (.cells #[.bool s4,.slice q4 ln4 c4,.int .i64 E4] 106)) (w4.heap.size) 2 (.int .i64 E4):=⟨by simp [go_sem],by simp [go_sem]⟩
 replace A3_2:=At.below A3_2 hbw5
 replace B:=below_step B B.size (below_alloc (hbw5))
 clear hbw5
 have F0_0:=A0_0.1;have G0_0:=A0_0.2
 have F0_1:=A0_1.1;have G0_1:=A0_1.2
 have F0_2:=A0_2.1;have G0_2:=A0_2.2
 have F1_0:=A1_0.1;have G1_0:=A1_0.2
 have F1_1:=A1_1.1;have G1_1:=A1_1.2
 have F1_2:=A1_2.1;have G1_2:=A1_2.2
 have F2_0:=A2_0.1;have G2_0:=A2_0.2
 have F2_1:=A2_1.1;have G2_1:=A2_1.2
 have F2_2:=A2_2.1;have G2_2:=A2_2.2
 have F3_0:=A3_0.1;have G3_0:=A3_0.2
 have F3_1:=A3_1.1;have G3_1:=A3_1.2
 have F3_2:=A3_2.1;have G3_2:=A3_2.2
 have Z0:=A0_0.lt
 have Z1:=A1_0.lt
 have Z2:=A2_0.lt
 have Z3:=A3_0.lt
 go_wp2_with fail
 refine (bigplus_any _ _ _ _ _ _ 106 4000 (by omega) (by omega) (by omega) (by omega) (by decide) _ (BigAt.alloc (BigAt.more G1 (by decide)) _) (BigAt.alloc (BigAt.more G5 (by decide)) _)).mono ?_
 rintro e w6 ⟨⟨val,N6,E6,rfl,G6,hE6,v6⟩,hbw6⟩
 obtain ⟨s6,q6,ln6,c6,rfl⟩:=BigAt.shape G6
 have V6:=Lib.hid v6
 have lo6 : -2148≤E6:=by omega
 have hi6:E6≤1942:=by omega
 clear v6 hE6
 replace G1:=BigAt.below (BigAt.alloc (G1) _) hbw6
 replace G2:=BigAt.below (BigAt.alloc (G2) _) hbw6
 replace G3:=BigAt.below (BigAt.alloc (G3) _) hbw6
 replace G4:=BigAt.below (BigAt.alloc (G4) _) hbw6
 replace G5:=BigAt.below (BigAt.alloc (G5) _) hbw6
 clear F0_0 G0_0 F0_1 G0_1 F0_2 G0_2 F1_0 G1_0 F1_1 G1_1 F1_2 G1_2 F2_0 G2_0 F2_1 G2_1 F2_2 G2_2 F3_0 G3_0 F3_1 G3_1 F3_2 G3_2 Z0 Z1 Z2 Z3
 have n4:w4.heap.size<w5.heap.size:=At.lt A3_2
 replace A0_0:=At.below (At.alloc (A0_0)) hbw6
 replace A0_1:=At.below (At.alloc (A0_1)) hbw6
 replace A0_2:=At.below (At.alloc (A0_2)) hbw6
 replace A1_0:=At.below (At.alloc (A1_0)) hbw6
 replace A1_1:=At.below (At.alloc (A1_1)) hbw6
 replace A1_2:=At.below (At.alloc (A1_2)) hbw6
 replace A2_0:=At.below (At.alloc (A2_0)) hbw6
 replace A2_1:=At.below (At.alloc (A2_1)) hbw6
 replace A2_2:=At.below (At.alloc (A2_2)) hbw6
 replace A3_0:=At.below (At.alloc (A3_0)) hbw6
 replace A3_1:=At.below (At.alloc (A3_1)) hbw6
 replace A3_2:=At.below (At.alloc (A3_2)) hbw6
 have A4_0:At (World.alloc w5 (.cells #[.bool s5,.slice q5 ln5 c5,.int .i64 E5] 106)) (w5.heap.size) 0 (.bool s5):=⟨by simp [go_sem],by simp [go_sem]⟩
 replace A4_0:=At.below A4_0 hbw6
 have A4_1:At (World.alloc w5 (.cells #[.bool s5,.slice q5 ln5 c5,.int .i64 E5] 106)) (w5.heap.size) 1 (.slice q5 ln5 c5):=⟨by simp [go_sem],by simp [go_sem]⟩
 replace A4_1:=At.below A4_1 hbw6
 have A4_2:At (World.alloc w5 (.cells #[.bool s5,.slice q5 ln5 c5,.int .i64 E5] 106)) (w5.heap.size) 2 (.int .i64 E5):=⟨by simp [go_sem],by simp [go_sem]⟩
 replace A4_2:=At.below A4_2 hbw6
 replace B:=below_step B B.size (below_alloc (hbw6))
 clear hbw6
 have F0_0:=A0_0.1;have G0_0:=A0_0.2
 have F0_1:=A0_1.1;have G0_1:=A0_1.2
 have F0_2:=A0_2.1;have G0_2:=A0_2.2
 have F1_0:=A1_0.1;have G1_0:=A1_0.2
 have F1_1:=A1_1.1;have G1_1:=A1_1.2
 have F1_2:=A1_2.1;have G1_2:=A1_2.2
 have F2_0:=A2_0.1;have G2_0:=A2_0.2
 have F2_1:=A2_1.1;have G2_1:=A2_1.2
 have F2_2:=A2_2.1;have G2_2:=A2_2.2
 have F3_0:=A3_0.1;have G3_0:=A3_0.2
 have F3_1:=A3_1.1;have G3_1:=A3_1.2
 have F3_2:=A3_2.1;have G3_2:=A3_2.2
 have F4_0:=A4_0.1;have G4_0:=A4_0.2
 have F4_1:=A4_1.1;have G4_1:=A4_1.2
 have F4_2:=A4_2.1;have G4_2:=A4_2.2
 have Z0:=A0_0.lt
 have Z1:=A1_0.lt
 have Z2:=A2_0.lt
 have Z3:=A3_0.lt
 have Z4:=A4_0.lt
 go_wp2_with fail
 refine (bigsign_any _ _ _ _ _ (BigAt.alloc (G6) _)).mono ?_
 rintro e w7 ⟨rfl,hbw7⟩
 replace G1:=BigAt.below (BigAt.alloc (G1) _) hbw7
 replace G2:=BigAt.below (BigAt.alloc (G2) _) hbw7
 replace G3:=BigAt.below (BigAt.alloc (G3) _) hbw7
 replace G4:=BigAt.below (BigAt.alloc (G4) _) hbw7
 replace G5:=BigAt.below (BigAt.alloc (G5) _) hbw7
 replace G6:=BigAt.below (BigAt.alloc (G6) _) hbw7
 clear F0_0 G0_0 F0_1 G0_1 F0_2 G0_2 F1_0 G1_0 F1_1 G1_1 F1_2 G1_2 F2_0 G2_0 F2_1 G2_1 F2_2 G2_2 F3_0 G3_0 F3_1 G3_1 F3_2 G3_2 F4_0 G4_0 F4_1 G4_1 F4_2 G4_2 Z0 Z1 Z2 Z3 Z4
 have n5:w5.heap.size<w6.heap.size:=At.lt A4_2
 replace A0_0:=At.below (At.alloc (A0_0)) hbw7
 replace A0_1:=At.below (At.alloc (A0_1)) hbw7
 replace A0_2:=At.below (At.alloc (A0_2)) hbw7
 replace A1_0:=At.below (At.alloc (A1_0)) hbw7
 replace A1_1:=At.below (At.alloc (A1_1)) hbw7
 replace A1_2:=At.below (At.alloc (A1_2)) hbw7
 replace A2_0:=At.below (At.alloc (A2_0)) hbw7
 replace A2_1:=At.below (At.alloc (A2_1)) hbw7
 replace A2_2:=At.below (At.alloc (A2_2)) hbw7
 replace A3_0:=At.below (At.alloc (A3_0)) hbw7
 replace A3_1:=At.below (At.alloc (A3_1)) hbw7
 replace A3_2:=At.below (At.alloc (A3_2)) hbw7
 replace A4_0:=At.below (At.alloc (A4_0)) hbw7
 replace A4_1:=At.below (At.alloc (A4_1)) hbw7
 replace A4_2:=At.below (At.alloc (A4_2)) hbw7
 have A5_0:At (World.alloc w6 (.cells #[.bool s6,.slice q6 ln6 c6,.int .i64 E6] 106)) (w6.heap.size) 0 (.bool s6):=⟨by simp [go_sem],by simp [go_sem]⟩
 replace A5_0:=At.below A5_0 hbw7
 have A5_1:At (World.alloc w6 (.cells #[.bool s6,.slice q6 ln6 c6,.int .i64 E6] 106)) (w6.heap.size) 1 (.slice q6 ln6 c6):=⟨by simp [go_sem],by simp [go_sem]⟩
 replace A5_1:=At.below A5_1 hbw7
 have A5_2:At (World.alloc w6 (.cells #[.bool s6,.slice q6 ln6 c6,.int .i64 E6] 106)) (w6.heap.size) 2 (.int .i64 E6):=⟨by simp [go_sem],by simp [go_sem]⟩
 replace A5_2:=At.below A5_2 hbw7
 replace B:=below_step B B.size (below_alloc (hbw7))
 clear hbw7
 have F0_0:=A0_0.1;have G0_0:=A0_0.2
 have F0_1:=A0_1.1;have G0_1:=A0_1.2
 have F0_2:=A0_2.1;have G0_2:=A0_2.2
 have F1_0:=A1_0.1;have G1_0:=A1_0.2
 have F1_1:=A1_1.1;have G1_1:=A1_1.2
 have F1_2:=A1_2.1;have G1_2:=A1_2.2
 have F2_0:=A2_0.1;have G2_0:=A2_0.2
 have F2_1:=A2_1.1;have G2_1:=A2_1.2
 have F2_2:=A2_2.1;have G2_2:=A2_2.2
 have F3_0:=A3_0.1;have G3_0:=A3_0.2
 have F3_1:=A3_1.1;have G3_1:=A3_1.2
 have F3_2:=A3_2.1;have G3_2:=A3_2.2
 have F4_0:=A4_0.1;have G4_0:=A4_0.2
 have F4_1:=A4_1.1;have G4_1:=A4_1.2
 have F4_2:=A4_2.1;have G4_2:=A4_2.2
 have F5_0:=A5_0.1;have G5_0:=A5_0.2
 have F5_1:=A5_1.1;have G5_1:=A5_1.2
 have F5_2:=A5_2.1;have G5_2:=A5_2.2
 have Z0:=A0_0.lt
 have Z1:=A1_0.lt
 have Z2:=A2_0.lt
 have Z3:=A3_0.lt
 have Z4:=A4_0.lt
 have Z5:=A5_0.lt
 have r:=V6.out 2148 (by omega) (by omega)
 rw [HN5.out,HE5.out,Int.neg_mul,HN4.out,HE4.out,mul_pow V3.out V3.out lo3 lo3,two_pow V1.out lo1,Kc.out,V_neg] at r
 have hr:N6.sign=(cSqrt (key x) (key c)).sign:=sign_scaled (r.trans (by unfold cSqrt;rw [if_neg (by omega),Int.neg_mul,Int.mul_neg];omega))
 go_wp2_with fail
 go_ret
 exact ⟨rfl,B⟩
end Go.Proofs.YteephgpefhodnaaGreat
