/- Package ivl: Apply, joined. What the statements without the document's answer begin with. Plain laws of the operations on ends: order, signs. Plain laws of the operations on intervals: lesser intervals give lesser results; what they give is an interval. Plain laws: signs and order; what a point gives. The keep statements' small functions, and the program's own in the form of keys. -/
import Derived.Test.YteephgpefhodnaaGreatCB
import Derived.Test.YteephgpefhodnaaGreatA6
import Derived.Test.YteephgpefhodnaaGreatFC
namespace Go.Proofs.YteephgpefhodnaaGreat
open Go.RowKit Go.Sort Go.Fl
set_option linter.unusedSimpArgs false
set_option linter.unusedVariables false
noncomputable def opLo (o A B C D:Int):Int:=if o=0 then -B else if o=1 then absLo A B else if o=2 then endK 8 (absLo A B) (absLo A B) false else if o=3 then (if B<0 then PI else sqrtK (max A 0) false) else if o=4 then floorK A else if o=5 then divLo 4607182418800017408 4607182418800017408 A B else if o=6 then endK 6 A C false else if o=7 then endK 6 A (-D) false else if o=8 then loN 8 A B C D 4 else if o=9 then divLo A B C D else if o=10 then min A C else max A C
noncomputable def opHi (o A B C D:Int):Int:=if o=0 then -A else if o=1 then absHi A B else if o=2 then endK 8 (absHi A B) (absHi A B) true else if o=3 then (if B<0 then -PI else if B<PI then sqrtK B true else PI) else if o=4 then floorK B else if o=5 then divHi 4607182418800017408 4607182418800017408 A B else if o=6 then endK 6 B D true else if o=7 then endK 6 B (-C) true else if o=8 then hiN 8 A B C D 4 else if o=9 then divHi A B C D else if o=10 then min B D else max B D
theorem opLo_0 (A B C D:Int):opLo 0 A B C D = -B:=rfl
theorem opHi_0 (A B C D:Int):opHi 0 A B C D = -A:=rfl
theorem opLo_1 (A B C D:Int):opLo 1 A B C D=absLo A B:=rfl
theorem opHi_1 (A B C D:Int):opHi 1 A B C D=absHi A B:=rfl
theorem opLo_2 (A B C D:Int):opLo 2 A B C D=endK 8 (absLo A B) (absLo A B) false:=rfl
theorem opHi_2 (A B C D:Int):opHi 2 A B C D=endK 8 (absHi A B) (absHi A B) true:=rfl
theorem opLo_3 (A B C D:Int):opLo 3 A B C D=(if B<0 then PI else sqrtK (max A 0) false):=rfl
theorem opHi_3 (A B C D:Int):opHi 3 A B C D=(if B<0 then -PI else if B<PI then sqrtK B true else PI):=rfl
theorem opLo_4 (A B C D:Int):opLo 4 A B C D=floorK A:=rfl
theorem opHi_4 (A B C D:Int):opHi 4 A B C D=floorK B:=rfl
theorem opLo_5 (A B C D:Int):opLo 5 A B C D=divLo 4607182418800017408 4607182418800017408 A B:=rfl
theorem opHi_5 (A B C D:Int):opHi 5 A B C D=divHi 4607182418800017408 4607182418800017408 A B:=rfl
theorem opLo_6 (A B C D:Int):opLo 6 A B C D=endK 6 A C false:=rfl
theorem opHi_6 (A B C D:Int):opHi 6 A B C D=endK 6 B D true:=rfl
theorem opLo_7 (A B C D:Int):opLo 7 A B C D=endK 6 A (-D) false:=rfl
theorem opHi_7 (A B C D:Int):opHi 7 A B C D=endK 6 B (-C) true:=rfl
theorem opLo_8 (A B C D:Int):opLo 8 A B C D=loN 8 A B C D 4:=rfl
theorem opHi_8 (A B C D:Int):opHi 8 A B C D=hiN 8 A B C D 4:=rfl
theorem opLo_9 (A B C D:Int):opLo 9 A B C D=divLo A B C D:=rfl
theorem opHi_9 (A B C D:Int):opHi 9 A B C D=divHi A B C D:=rfl
theorem opLo_10 (A B C D:Int):opLo 10 A B C D=min A C:=rfl
theorem opHi_10 (A B C D:Int):opHi 10 A B C D=min B D:=rfl
theorem opLo_11 (A B C D:Int):opLo 11 A B C D=max A C:=rfl
theorem opHi_11 (A B C D:Int):opHi 11 A B C D=max B D:=rfl
def nrmLo (p q:Int):Int:=if (p=PI∧q = -PI)∨(p≤q∧p<PI ∧ -PI<q) then p else PI
def nrmHi (p q:Int):Int:=if (p=PI∧q = -PI)∨(p≤q∧p<PI ∧ -PI<q) then q else -PI
theorem good_key {p q:Int} (hp:Rg p) (hq:Rg q):good (ofKey p) (ofKey q)=decide ((p=PI∧q = -PI)∨(p≤q∧p<PI ∧ -PI<q)):=by
 unfold good
 rw [key_ofKey hp,key_ofKey hq]
 have h1:=not_nan_ofKey hp
 have h2:=not_nan_ofKey hq
 simp [h1,h2]
theorem tk_nrm {p q:Int} (hp:Rg p) (hq:Rg q):tkLo (ofKey p) (ofKey q)=nrmLo p q∧tkHi (ofKey p) (ofKey q)=nrmHi p q:=by
 unfold tkLo tkHi nrmLo nrmHi
 rw [good_key hp hq,key_ofKey hp,key_ofKey hq]
 by_cases h:(p=PI∧q = -PI)∨(p≤q∧p<PI ∧ -PI<q)
 ·rw [decide_eq_true h,if_pos rfl,if_pos rfl,if_pos h,if_pos h];exact ⟨rfl,rfl⟩
 ·rw [decide_eq_false h,if_neg h,if_neg h,if_neg Bool.false_ne_true,if_neg Bool.false_ne_true];exact ⟨rfl,rfl⟩
theorem nrm_iv {p q:Int} (hp:Rg p) (hq:Rg q):Iv (nrmLo p q) (nrmHi p q):=by
 rw [←(tk_nrm hp hq).1,←(tk_nrm hp hq).2];exact tk_iv _ _
def Uses (o A B C D:Int):Prop:=(0≤o∧o≤5 ∧ ¬(A=PI∧B = -PI))∨(6≤o∧o≤11 ∧ ¬(A=PI∧B = -PI) ∧ ¬(C=PI∧D = -PI))
instance (o A B C D:Int):Decidable (Uses o A B C D):=by unfold Uses;infer_instance
noncomputable def apLo (o A B C D:Int):Int:=if Uses o A B C D then nrmLo (opLo o A B C D) (opHi o A B C D) else PI
noncomputable def apHi (o A B C D:Int):Int:=if Uses o A B C D then nrmHi (opLo o A B C D) (opHi o A B C D) else -PI
theorem apLo_no {o A B C D:Int} (h : ¬Uses o A B C D):apLo o A B C D=PI:=by unfold apLo;rw [if_neg h]
theorem apHi_no {o A B C D:Int} (h : ¬Uses o A B C D):apHi o A B C D = -PI:=by unfold apHi;rw [if_neg h]
theorem divP_rg (a b c d:Int) (ha:Rg a) (hb:Rg b):Rg (divPLo a b c d)∧Rg (divPHi a b c d):=by
 constructor
 ·unfold divPLo
  split
  ·exact Rg_zero
  ·split
   ·exact loN_rg _ _ _ _ _ ha hb _
   ·split
    ·exact endK_rg _ _ _ _ ha
    ·split
     ·exact endK_rg _ _ _ _ ha
     ·exact Rg_MI
 ·unfold divPHi
  split
  ·exact Rg_zero
  ·split
   ·exact hiN_rg _ _ _ _ _ ha hb _
   ·split
    ·exact endK_rg _ _ _ _ hb
    ·split
     ·exact endK_rg _ _ _ _ hb
     ·exact Rg_PI
theorem div_rg (a b c d:Int) (ha:Rg a) (hb:Rg b):Rg (divLo a b c d)∧Rg (divHi a b c d):=by
 constructor
 ·unfold divLo
  split
  ·exact Rg_PI
  ·split
   ·exact Rg_zero
   ·split
    ·exact Rg_MI
    ·split
     ·exact (divP_rg _ _ _ _ (Rg_neg hb) (Rg_neg ha)).1
     ·exact (divP_rg _ _ _ _ ha hb).1
 ·unfold divHi
  split
  ·exact Rg_MI
  ·split
   ·exact Rg_zero
   ·split
    ·exact Rg_PI
    ·split
     ·exact (divP_rg _ _ _ _ (Rg_neg hb) (Rg_neg ha)).2
     ·exact (divP_rg _ _ _ _ ha hb).2
theorem rg_one:Rg 4607182418800017408:=⟨by decide,by decide⟩
theorem op_rg (o:Int) (A B C D:Int) (rA:Rg A) (rB:Rg B) (rC:Rg C) (rD:Rg D):Rg (opLo o A B C D)∧Rg (opHi o A B C D):=by
 unfold opLo opHi
 by_cases h0:o=0
 ·rw [if_pos h0,if_pos h0];exact ⟨Rg_neg rB,Rg_neg rA⟩
 rw [if_neg h0,if_neg h0]
 by_cases h1:o=1
 ·rw [if_pos h1,if_pos h1];exact ⟨absLo_rg rA rB,absHi_rg rA rB⟩
 rw [if_neg h1,if_neg h1]
 by_cases h2:o=2
 ·rw [if_pos h2,if_pos h2];exact ⟨endK_rg _ _ _ _ (absLo_rg rA rB),endK_rg _ _ _ _ (absHi_rg rA rB)⟩
 rw [if_neg h2,if_neg h2]
 by_cases h3:o=3
 ·rw [if_pos h3,if_pos h3]
  constructor
  ·split
   ·exact Rg_PI
   ·exact rnd_rg _ _
  ·split
   ·exact Rg_MI
   ·split
    ·exact rnd_rg _ _
    ·exact Rg_PI
 rw [if_neg h3,if_neg h3]
 by_cases h4:o=4
 ·rw [if_pos h4,if_pos h4];exact ⟨floorK_rg rA,floorK_rg rB⟩
 rw [if_neg h4,if_neg h4]
 by_cases h5:o=5
 ·rw [if_pos h5,if_pos h5];exact div_rg _ _ _ _ rg_one rg_one
 rw [if_neg h5,if_neg h5]
 by_cases h6:o=6
 ·rw [if_pos h6,if_pos h6];exact ⟨endK_rg _ _ _ _ rA,endK_rg _ _ _ _ rB⟩
 rw [if_neg h6,if_neg h6]
 by_cases h7:o=7
 ·rw [if_pos h7,if_pos h7];exact ⟨endK_rg _ _ _ _ rA,endK_rg _ _ _ _ rB⟩
 rw [if_neg h7,if_neg h7]
 by_cases h8:o=8
 ·rw [if_pos h8,if_pos h8];exact ⟨loN_rg _ _ _ _ _ rA rB _,hiN_rg _ _ _ _ _ rA rB _⟩
 rw [if_neg h8,if_neg h8]
 by_cases h9:o=9
 ·rw [if_pos h9,if_pos h9];exact div_rg _ _ _ _ rA rB
 rw [if_neg h9,if_neg h9]
 by_cases h10:o=10
 ·rw [if_pos h10,if_pos h10];exact ⟨rg_min rA rC,rg_min rB rD⟩
 rw [if_neg h10,if_neg h10]
 exact ⟨rg_max rA rC,rg_max rB rD⟩
theorem ap_iv (o A B C D:Int) (rA:Rg A) (rB:Rg B) (rC:Rg C) (rD:Rg D):Iv (apLo o A B C D) (apHi o A B C D):=by
 unfold apLo apHi
 by_cases h:Uses o A B C D
 ·rw [if_pos h,if_pos h];exact nrm_iv (op_rg o A B C D rA rB rC rD).1 (op_rg o A B C D rA rB rC rD).2
 ·rw [if_neg h,if_neg h];exact ⟨Rg_PI,Rg_MI,.inl ⟨rfl,rfl⟩⟩
theorem ivlapply_any (o:Int) (a b c d:Nat) (ha:Wd a) (hb:Wd b) (hc:Wd c) (hd:Wd d) (w:World) :
  Calls Tryz.prog 54 #[.int .i64 o,.agg #[.float .f64 (a),.float .f64 (b)],.agg #[.float .f64 (c),.float .f64 (d)]] w fun e w'=>e = .returned (.agg #[.float .f64 (ofKey (apLo o (tkLo a b) (tkHi a b) (tkLo c d) (tkHi c d))),.float .f64 (ofKey (apHi o (tkLo a b) (tkHi a b) (tkLo c d) (tkHi c d)))])∧Below w.heap.size w w':=by
 obtain ⟨rA,rB,vA⟩:=tk_iv a b
 obtain ⟨rC,rD,vC⟩:=tk_iv c d
 have hP:=PI_pos
 by_cases ho:o<0∨11<o
 ·rw [apLo_no (by unfold Uses;omega),apHi_no (by unfold Uses;omega)]
  exact apply_none o a b c d ha hb hc hd ho w
 ·by_cases hn:tkLo a b=PI∧tkHi a b = -PI
  ·rw [apLo_no (by unfold Uses;omega),apHi_no (by unfold Uses;omega)]
   rcases (show o=0∨o=1∨o=2∨o=3∨o=4∨o=5∨o=6∨o=7∨o=8∨o=9∨o=10∨o=11 by omega) with rfl|rfl|rfl|rfl|rfl|rfl|rfl|rfl|rfl|rfl|rfl|rfl
   ·exact apply_one_no 0 a b c d ha hb hc hd _ enter_0 find_0 hn w
   ·exact apply_one_no 1 a b c d ha hb hc hd _ enter_1 find_1 hn w
   ·exact apply_one_no 2 a b c d ha hb hc hd _ enter_2 find_2 hn w
   ·exact apply_one_no 3 a b c d ha hb hc hd _ enter_3 find_3 hn w
   ·exact apply_one_no 4 a b c d ha hb hc hd _ enter_4 find_4 hn w
   ·exact apply_one_no 5 a b c d ha hb hc hd _ enter_5 find_5 hn w
   ·exact apply_two_no 6 a b c d ha hb hc hd _ enter_6 find_6 hn w
   ·exact apply_two_no 7 a b c d ha hb hc hd _ enter_7 find_7 hn w
   ·exact apply_two_no 8 a b c d ha hb hc hd _ enter_8 find_8 hn w
   ·exact apply_two_no 9 a b c d ha hb hc hd _ enter_9 find_9 hn w
   ·exact apply_two_no 10 a b c d ha hb hc hd _ enter_10 find_10 hn w
   ·exact apply_two_no 11 a b c d ha hb hc hd _ enter_11 find_11 hn w
  ·by_cases hn2:6≤o∧tkLo c d=PI∧tkHi c d = -PI
   ·rw [apLo_no (by unfold Uses;omega),apHi_no (by unfold Uses;omega)]
    obtain ⟨h6,hn2⟩:=hn2
    rcases (show o=6∨o=7∨o=8∨o=9∨o=10∨o=11 by omega) with rfl|rfl|rfl|rfl|rfl|rfl
    ·exact apply_two_no2 6 a b c d ha hb hc hd _ enter_6 find_6 hn hn2 w
    ·exact apply_two_no2 7 a b c d ha hb hc hd _ enter_7 find_7 hn hn2 w
    ·exact apply_two_no2 8 a b c d ha hb hc hd _ enter_8 find_8 hn hn2 w
    ·exact apply_two_no2 9 a b c d ha hb hc hd _ enter_9 find_9 hn hn2 w
    ·exact apply_two_no2 10 a b c d ha hb hc hd _ enter_10 find_10 hn hn2 w
    ·exact apply_two_no2 11 a b c d ha hb hc hd _ enter_11 find_11 hn hn2 w
   ·have hu:Uses o (tkLo a b) (tkHi a b) (tkLo c d) (tkHi c d):=by unfold Uses;omega
    obtain ⟨rx,ry⟩:=op_rg o _ _ _ _ rA rB rC rD
    have hr:=tk_nrm rx ry
    unfold apLo apHi
    rw [if_pos hu,if_pos hu,←hr.1,←hr.2]
    clear hr hu
    rcases (show o=0∨o=1∨o=2∨o=3∨o=4∨o=5∨o=6∨o=7∨o=8∨o=9∨o=10∨o=11 by omega) with rfl|rfl|rfl|rfl|rfl|rfl|rfl|rfl|rfl|rfl|rfl|rfl
    ·exact apply_one 0 a b c d ha hb hc hd _ _ _ enter_0 find_0 rx ry hn (fun w=>ivlneg_any _ _ rA rB w) w
    ·exact apply_one 1 a b c d ha hb hc hd _ _ _ enter_1 find_1 rx ry hn (fun w=>ivlabs_any _ _ rA rB w) w
    ·exact apply_one 2 a b c d ha hb hc hd _ _ _ enter_2 find_2 rx ry hn (fun w=>ivlsqr_any _ _ rA rB w) w
    ·exact apply_one 3 a b c d ha hb hc hd _ _ _ enter_3 find_3 rx ry hn (fun w=>ivlsqrt_any _ _ rA rB (by omega) w) w
    ·exact apply_one 4 a b c d ha hb hc hd _ _ _ enter_4 find_4 rx ry hn (fun w=>find1_any _ _ rA rB w) w
    ·exact apply_one 5 a b c d ha hb hc hd _ _ _ enter_5 find_5 rx ry hn (fun w=>find2_any _ _ rA rB (by omega) w) w
    ·exact apply_two 6 a b c d ha hb hc hd _ _ _ enter_6 find_6 rx ry hn (by omega) (fun w=>ivladd_any _ _ _ _ rA rB rC rD (.inl ⟨rfl,by omega,by omega⟩) (.inl ⟨rfl,by omega,by omega⟩) w) w
    ·exact apply_two 7 a b c d ha hb hc hd _ _ _ enter_7 find_7 rx ry hn (by omega) (fun w=>find3_any _ _ _ _ rA rB rC rD (.inl ⟨rfl,by omega,by omega⟩) (.inl ⟨rfl,by omega,by omega⟩) w) w
    ·exact apply_two 8 a b c d ha hb hc hd _ _ _ enter_8 find_8 rx ry hn (by omega) (fun w=>find4_any _ _ _ _ rA rB rC rD w) w
    ·exact apply_two 9 a b c d ha hb hc hd _ _ _ enter_9 find_9 rx ry hn (by omega) (fun w=>ivldiv_any _ _ _ _ rA rB rC rD (by omega) w) w
    ·exact apply_two 10 a b c d ha hb hc hd _ _ _ enter_10 find_10 rx ry hn (by omega) (fun w=>find5_any _ _ _ _ rA rB rC rD w) w
    ·exact apply_two 11 a b c d ha hb hc hd _ _ _ enter_11 find_11 rx ry hn (by omega) (fun w=>find6_any _ _ _ _ rA rB rC rD w) w
theorem spansapply_any (o:Int) (a b c d:Nat) (ha:Wd a) (hb:Wd b) (hc:Wd c) (hd:Wd d) (w:World) :
  Calls Tryz.prog 22 #[.int .i64 o,.agg #[.float .f64 (a),.float .f64 (b)],.agg #[.float .f64 (c),.float .f64 (d)]] w fun e w'=>e = .returned (.agg #[.float .f64 (ofKey (apLo o (tkLo a b) (tkHi a b) (tkLo c d) (tkHi c d))),.float .f64 (ofKey (apHi o (tkLo a b) (tkHi a b) (tkLo c d) (tkHi c d)))])∧Below w.heap.size w w':=by
 have AP:=Lib.hid (fun w=>ivlapply_any o a b c d ha hb hc hd w)
 generalize apLo o (tkLo a b) (tkHi a b) (tkLo c d) (tkHi c d)=x at *
 generalize apHi o (tkLo a b) (tkHi a b) (tkLo c d) (tkHi c d)=y at *
 go_enter Tryz.func22,Tryz.ntmps22
 go_wp2_with fail
 refine (AP.out _).mono ?_;rintro e w1 ⟨rfl,hb⟩
 have H:=Hold.i222.below hb;clear hb;have F:=H.f;dsimp only [Fac] at F
 go_wp2_with fail
 refine ((H.set 4 _).set 5 _).gob ?_;clear H F;intro wz H;dsimp only [upd] at H;have F:=H.f;dsimp only [Fac] at F
 refine bodyPost_ret (by simp [results,Tryz.results22,go_sem,F]) rfl ⟨rfl,?_⟩;exact H.B
end Go.Proofs.YteephgpefhodnaaGreat
namespace Go.Proofs.YteephgpefhodnaaGreat
open Go.RowKit Go.Sort Go.Fl
set_option linter.unusedSimpArgs false
set_option linter.unusedVariables false
theorem add_exact {a b k:Int} (h:V a+V b=V k) (h1 : -PI<k) (h2:k<PI) (up:Bool):addK a b up=k:=by
 refine rnd_eq (cut_add a b) ?_
 have v1:=V_lt (show k<k+1 by omega)
 have v2:=V_lt (show k-1<k by omega)
 cases up
 ·exact ⟨by omega,by omega,fun _=>by unfold cAdd;omega,fun _=>by unfold cAdd;omega⟩
 ·exact ⟨by omega,by omega,fun _=>by unfold cAdd;omega,fun _=>by unfold cAdd;omega⟩
theorem V_at (l kept:Nat) (h:2^52≤kept) (h1:kept≤2^53) (k:Int) (hk:k=((l*2^52+kept:Nat):Int)):V k=((kept*2^l:Nat):Int):=by
 rw [hk,V_nat,M_at l kept (.inr h) h1]
theorem one_three (up:Bool):addK 4607182418800017408 4613937818241073152 up=4616189618054758400:=by
 refine add_exact ?_ (by decide) (by decide) up
 obtain ⟨l,hl⟩ : ∃ l,l=1022:=⟨_,rfl⟩
 rw [V_at l (2^52) (by omega) (by omega) _ (by omega),V_at (l+1) (2^52+2^51) (by omega) (by omega) _ (by omega),V_at (l+2) (2^52) (by omega) (by omega) _ (by omega)]
 refine (Int.natCast_add _ _).symm.trans (congrArg _ ?_)
 rw [show (2:Nat)^(l+1)=2^l*2 from Nat.pow_succ _ _,show (2:Nat)^(l+2)=2^l*4 from Nat.pow_add 2 l 2]
 generalize (2:Nat)^l=u
 omega
theorem two_four (up:Bool):addK 4611686018427387904 4616189618054758400 up=4618441417868443648:=by
 refine add_exact ?_ (by decide) (by decide) up
 obtain ⟨l,hl⟩ : ∃ l,l=1022:=⟨_,rfl⟩
 rw [V_at (l+1) (2^52) (by omega) (by omega) _ (by omega),V_at (l+2) (2^52) (by omega) (by omega) _ (by omega),V_at (l+2) (2^52+2^51) (by omega) (by omega) _ (by omega)]
 refine (Int.natCast_add _ _).symm.trans (congrArg _ ?_)
 rw [show (2:Nat)^(l+1)=2^l*2 from Nat.pow_succ _ _,show (2:Nat)^(l+2)=2^l*4 from Nat.pow_add 2 l 2]
 generalize (2:Nat)^l=u
 omega
theorem alive_sum (w:World):Calls Tryz.prog 22 #[.int .i64 6,.agg #[.float .f64 (4607182418800017408),.float .f64 (4611686018427387904)],.agg #[.float .f64 (4613937818241073152),.float .f64 (4616189618054758400)]] w fun e w'=>e = .returned (.agg #[.float .f64 (4616189618054758400),.float .f64 (4618441417868443648)])∧Below w.heap.size w w':=by
 have h:=spansapply_any 6 4607182418800017408 4611686018427387904 4613937818241073152 4616189618054758400 (by unfold Wd;omega) (by unfold Wd;omega) (by unfold Wd;omega) (by unfold Wd;omega) w
 have e1:tkLo 4607182418800017408 4611686018427387904=4607182418800017408:=by decide
 have e2:tkHi 4607182418800017408 4611686018427387904=4611686018427387904:=by decide
 have e3:tkLo 4613937818241073152 4616189618054758400=4613937818241073152:=by decide
 have e4:tkHi 4613937818241073152 4616189618054758400=4616189618054758400:=by decide
 have hl:opLo 6 4607182418800017408 4611686018427387904 4613937818241073152 4616189618054758400=4616189618054758400:=by
  rw [opLo_6]
  unfold endK
  rw [if_pos (by decide)]
  exact one_three false
 have hh:opHi 6 4607182418800017408 4611686018427387904 4613937818241073152 4616189618054758400=4618441417868443648:=by
  rw [opHi_6]
  unfold endK
  rw [if_pos (by decide)]
  exact two_four true
 have a1:apLo 6 4607182418800017408 4611686018427387904 4613937818241073152 4616189618054758400=4616189618054758400:=by
  unfold apLo
  rw [if_pos (by decide),hl,hh]
  decide
 have a2:apHi 6 4607182418800017408 4611686018427387904 4613937818241073152 4616189618054758400=4618441417868443648:=by
  unfold apHi
  rw [if_pos (by decide),hl,hh]
  decide
 have w1:ofKey 4616189618054758400=4616189618054758400:=by decide
 have w2:ofKey 4618441417868443648=4618441417868443648:=by decide
 rw [e1,e2,e3,e4,a1,a2,w1,w2] at h
 exact h
def NE (A B:Int):Prop:=Rg A∧Rg B∧A≤B∧A<PI ∧ -PI<B
theorem NE.iv {A B:Int} (h:NE A B):Iv A B:=⟨h.1,h.2.1,.inr h.2.2⟩
theorem NE.no {A B:Int} (h:NE A B) : ¬(A=PI∧B = -PI):=by have:=h.2.2.2.1;omega
theorem one_key:ofKey 4607182418800017408=4607182418800017408:=by decide
end Go.Proofs.YteephgpefhodnaaGreat
namespace Go.Proofs.YteephgpefhodnaaGreat
open Go.RowKit Go.Sort Go.Fl
set_option linter.unusedSimpArgs false
set_option linter.unusedVariables false
def Fi (x:Int):Prop := -PI<x∧x<PI
theorem Fi.rg {x:Int} (h:Fi x):Rg x:=⟨by have:=h.1;omega,by have:=h.2;omega⟩
theorem Fi.neg {x:Int} (h:Fi x):Fi (-x):=⟨by have:=h.2;omega,by have:=h.1;omega⟩
theorem fi_zero:Fi 0:=⟨by decide,by decide⟩
theorem endK_fi {o x y:Int} (hx:Fi x) (hy:Fi y) (up:Bool):endK o x y up=roundK o x y up:=by
 unfold endK;rw [if_pos ⟨hx.1,hx.2,hy.1,hy.2⟩]
theorem roundK_6 (x y:Int) (up:Bool):roundK 6 x y up=rnd up (cAdd x y):=rfl
theorem roundK_8 (x y:Int) (up:Bool):roundK 8 x y up=rnd up (cMul x y):=rfl
theorem roundK_9 (x y:Int) (up:Bool):roundK 9 x y up=rnd up (cDiv x y):=rfl
theorem cut_round (o x y:Int) (hy:o=9→y≠0) (ho:o=3∨o=6∨o=7∨o=8∨o=9) : ∃ c,Cut c ∧ ∀ up,roundK o x y up=rnd up c:=by
 rcases ho with rfl|rfl|rfl|rfl|rfl
 ·exact ⟨_,cut_sqrt x,fun _=>rfl⟩
 ·exact ⟨_,cut_add x y,fun _=>rfl⟩
 ·exact ⟨_,cut_add x (-y),fun _=>rfl⟩
 ·exact ⟨_,cut_mul x y,fun _=>rfl⟩
 ·exact ⟨_,cut_div x y (hy rfl),fun _=>rfl⟩
theorem low_lt (c:Int→Int):rnd false c<PI ∧ -PI≤rnd false c:=⟨(rd_spec c).2.1,(rd_spec c).1⟩
theorem high_gt (c:Int→Int) : -PI<rnd true c∧rnd true c≤PI:=⟨(ru_spec c).1,(ru_spec c).2.1⟩
theorem end6_case (x y:Int) (rx:Rg x) (ry:Rg y) (ok:EndOk 6 x y) (up:Bool) :
  (Fi x∧Fi y∧endK 6 x y up=rnd up (cAdd x y))∨((x=PI∨y=PI) ∧ -PI<x ∧ -PI<y∧endK 6 x y up=PI)∨((x = -PI∨y = -PI)∧x<PI∧y<PI∧endK 6 x y up = -PI):=by
 have hP:=PI_pos
 obtain ⟨x1,x2⟩:=rx
 obtain ⟨y1,y2⟩:=ry
 unfold EndOk at ok
 unfold endK
 by_cases h : -PI<x∧x<PI ∧ -PI<y∧y<PI
 ·rw [if_pos h]
  exact .inl ⟨⟨h.1,h.2.1⟩,⟨h.2.2.1,h.2.2.2⟩,rfl⟩
 ·rw [if_neg h,if_neg (by omega),if_pos rfl]
  by_cases h2:x=PI∨y=PI
  ·rw [if_pos h2]
   exact .inr (.inl ⟨h2,by omega,by omega,rfl⟩)
  ·rw [if_neg h2]
   exact .inr (.inr ⟨by omega,by omega,by omega,rfl⟩)
theorem end6_mono {x x' y y':Int} (rx:Rg x) (rx':Rg x') (ry:Rg y) (ry':Rg y') (ok:EndOk 6 x y) (ok':EndOk 6 x' y') (hx:x≤x') (hy:y≤y') (up:Bool):endK 6 x y up≤endK 6 x' y' up:=by
 have hP:=PI_pos
 have r1:=endK_rg 6 x y up rx
 have r2:=endK_rg 6 x' y' up rx'
 obtain ⟨r1,r1'⟩:=r1
 obtain ⟨r2,r2'⟩:=r2
 rcases end6_case x y rx ry ok up with ⟨f1,f2,e⟩|⟨f1,f2,f3,e⟩|⟨f1,f2,f3,e⟩<;>rcases end6_case x' y' rx' ry' ok' up with ⟨g1,g2,e'⟩|⟨g1,g2,g3,e'⟩|⟨g1,g2,g3,e'⟩<;>rw [e,e']
 ·exact sum_mono hx hy up
 ·rw [e] at r1';exact r1'
 ·unfold Fi at *;omega
 ·unfold Fi Rg at *;omega
 ·omega
 ·unfold Rg at *;omega
 ·rw [e'] at r2;exact r2
 ·omega
 ·omega
theorem end6_comm (x y:Int) (up:Bool):endK 6 x y up=endK 6 y x up:=by
 unfold endK
 by_cases h : -PI<x∧x<PI ∧ -PI<y∧y<PI
 ·rw [if_pos h,if_pos (by omega),roundK_6,roundK_6,cAdd_comm]
 ·have e1 : ¬((6:Int)=8):=by omega
  rw [if_neg h,if_neg (by omega : ¬(-PI<y∧y<PI ∧ -PI<x∧x<PI)),if_neg e1,if_neg e1,if_pos rfl,if_pos rfl]
  by_cases h2:x=PI∨y=PI
  ·rw [if_pos h2,if_pos (by omega)]
  ·rw [if_neg h2,if_neg (by omega)]
theorem end6_flip {x y:Int} (rx:Rg x) (ry:Rg y) (ok:EndOk 6 x y) (up:Bool):endK 6 (-x) (-y) (!up) = -endK 6 x y up:=by
 have hP:=PI_pos
 have ok':EndOk 6 (-x) (-y):=by unfold EndOk at *;omega
 rcases end6_case x y rx ry ok up with ⟨f1,f2,e⟩|⟨f1,f2,f3,e⟩|⟨f1,f2,f3,e⟩<;>rcases end6_case (-x) (-y) (Rg_neg rx) (Rg_neg ry) ok' (!up) with ⟨g1,g2,e'⟩|⟨g1,g2,g3,e'⟩|⟨g1,g2,g3,e'⟩<;>rw [e,e']
 ·exact sum_flip x y up
 all_goals (unfold Fi Rg at *;omega)
theorem end8_comm (x y:Int) (up:Bool):endK 8 x y up=endK 8 y x up:=by
 unfold endK
 by_cases h : -PI<x∧x<PI ∧ -PI<y∧y<PI
 ·rw [if_pos h,if_pos (by omega),roundK_8,roundK_8,cMul_comm]
 ·rw [if_neg h,if_neg (by omega : ¬(-PI<y∧y<PI ∧ -PI<x∧x<PI)),if_pos rfl,if_pos rfl]
  by_cases h2:x=0∨y=0
  ·rw [if_pos h2,if_pos (by omega)]
  ·rw [if_neg h2,if_neg (by omega)]
   unfold infSign
   by_cases h3:(0<x∧0<y)∨(x<0∧y<0)
   ·rw [if_pos h3,if_pos (by omega)]
   ·rw [if_neg h3,if_neg (by omega)]
theorem end8_zero (x:Int) (rx:Rg x) (up:Bool):endK 8 x 0 up=0:=by
 unfold endK
 by_cases h : -PI<x∧x<PI ∧ -PI<(0:Int)∧(0:Int)<PI
 ·rw [if_pos h,roundK_8,prod_zero]
 ·rw [if_neg h,if_pos rfl,if_pos (.inr rfl)]
theorem end8_case (x y:Int) (rx:Rg x) (ry:Rg y) (up:Bool) :
  (Fi x∧Fi y∧endK 8 x y up=rnd up (cMul x y))∨((x=0∨y=0)∧endK 8 x y up=0) ∨
  ((x=PI∨x = -PI∨y=PI∨y = -PI)∧((0<x∧0<y)∨(x<0∧y<0))∧endK 8 x y up=PI)∨((x=PI∨x = -PI∨y=PI∨y = -PI)∧((0<x∧y<0)∨(x<0∧0<y))∧endK 8 x y up = -PI):=by
 have hP:=PI_pos
 obtain ⟨x1,x2⟩:=rx
 obtain ⟨y1,y2⟩:=ry
 unfold endK
 by_cases h : -PI<x∧x<PI ∧ -PI<y∧y<PI
 ·rw [if_pos h]
  exact .inl ⟨⟨h.1,h.2.1⟩,⟨h.2.2.1,h.2.2.2⟩,rfl⟩
 ·rw [if_neg h,if_pos rfl]
  by_cases h2:x=0∨y=0
  ·rw [if_pos h2]
   exact .inr (.inl ⟨h2,rfl⟩)
  ·rw [if_neg h2]
   unfold infSign
   by_cases h3:(0<x∧0<y)∨(x<0∧y<0)
   ·rw [if_pos h3]
    exact .inr (.inr (.inl ⟨by omega,h3,rfl⟩))
   ·rw [if_neg h3]
    exact .inr (.inr (.inr ⟨by omega,by omega,rfl⟩))
theorem end8_mono {x x' y:Int} (rx:Rg x) (rx':Rg x') (ry:Rg y) (hx:x≤x') (hy:0≤y) (up:Bool):endK 8 x y up≤endK 8 x' y up:=by
 have hP:=PI_pos
 have r1:=endK_rg 8 x y up rx
 have r2:=endK_rg 8 x' y up rx'
 by_cases h0:y=0
 ·rw [h0,end8_zero x rx,end8_zero x' rx'];exact Int.le_refl _
 rcases end8_case x y rx ry up with ⟨f1,f2,e⟩|⟨f1,e⟩|⟨f1,f2,e⟩|⟨f1,f2,e⟩<;>rcases end8_case x' y rx' ry up with ⟨g1,g2,e'⟩|⟨g1,e'⟩|⟨g1,g2,e'⟩|⟨g1,g2,e'⟩
 ·rw [e,e'];exact prod_mono hx hy up
 ·rw [e,e']
  have:x'=0:=by omega
  subst this
  refine Int.le_trans (prod_mono hx hy up) ?_
  rw [cMul_comm,prod_zero];exact Int.le_refl _
 ·rw [e'];exact r1.2
 ·exfalso;unfold Fi Rg at *;omega
 ·rw [e,e']
  have:x=0:=by omega
  subst this
  refine Int.le_trans ?_ (prod_mono hx hy up)
  rw [cMul_comm,prod_zero];exact Int.le_refl _
 ·rw [e,e'];exact Int.le_refl _
 ·rw [e,e'];omega
 ·exfalso;unfold Rg at *;omega
 ·exfalso;unfold Fi Rg at *;omega
 ·exfalso;unfold Rg at *;omega
 ·rw [e,e'];exact Int.le_refl _
 ·exfalso;unfold Rg at *;omega
 ·rw [e];exact r2.1
 ·rw [e];exact r2.1
 ·rw [e];exact r2.1
 ·rw [e];exact r2.1
theorem end8_flip {x y:Int} (rx:Rg x) (ry:Rg y) (up:Bool):endK 8 (-x) y (!up) = -endK 8 x y up:=by
 have hP:=PI_pos
 rcases end8_case x y rx ry up with ⟨f1,f2,e⟩|⟨f1,e⟩|⟨f1,f2,e⟩|⟨f1,f2,e⟩
 ·rw [e,endK_fi f1.neg f2,roundK_8];exact prod_flip x y up
 ·rw [e]
  rcases f1 with rfl|rfl
  ·rw [Int.neg_zero,end8_comm,end8_zero y ry]
  ·rw [end8_zero _ (Rg_neg rx)];rfl
 ·rw [e]
  rcases end8_case (-x) y (Rg_neg rx) ry (!up) with ⟨g1,g2,e'⟩|⟨g1,e'⟩|⟨g1,g2,e'⟩|⟨g1,g2,e'⟩<;>first|(exfalso;unfold Fi Rg at *;omega)|(rw [e'];done)|(rw [e'];omega)
 ·rw [e]
  rcases end8_case (-x) y (Rg_neg rx) ry (!up) with ⟨g1,g2,e'⟩|⟨g1,e'⟩|⟨g1,g2,e'⟩|⟨g1,g2,e'⟩<;>first|(exfalso;unfold Fi Rg at *;omega)|(rw [e'];done)|(rw [e'];omega)
theorem end8_anti {x x' y:Int} (rx:Rg x) (rx':Rg x') (ry:Rg y) (hx:x≤x') (hy:y≤0) (up:Bool):endK 8 x' y up≤endK 8 x y up:=by
 have h:=end8_mono (Rg_neg rx') (Rg_neg rx) (Rg_neg ry) (show -x' ≤ -x by omega) (show 0 ≤ -y by omega) up
 have e : ∀ z,Rg z→endK 8 (-z) (-y) up=endK 8 z y up:=fun z rz=>by
  have a:=end8_flip rz (Rg_neg ry) (!up)
  have b:=end8_flip ry rz up
  rw [not_up] at a
  rw [a,end8_comm z (-y),b,end8_comm y z,Int.neg_neg]
 rw [e x rx,e x' rx'] at h
 exact h
theorem end8_nn {x y:Int} (rx:Rg x) (ry:Rg y) (hx:0≤x) (hy:0≤y) (up:Bool):0≤endK 8 x y up:=by
 have h:=end8_mono Rg_zero rx ry hx hy up
 rw [end8_comm 0,end8_zero y ry] at h
 exact h
theorem end8_within {A B x y:Int} (rA:Rg A) (rB:Rg B) (rx:Rg x) (ry:Rg y) (h1:A≤x) (h2:x≤B) (up:Bool) :
  min (endK 8 A y up) (endK 8 B y up)≤endK 8 x y up∧endK 8 x y up≤max (endK 8 A y up) (endK 8 B y up):=by
 by_cases hy:0≤y
 ·have:=end8_mono rA rx ry h1 hy up
  have:=end8_mono rx rB ry h2 hy up
  omega
 ·have:=end8_anti rA rx ry h1 (by omega) up
  have:=end8_anti rx rB ry h2 (by omega) up
  omega
theorem loN4 (o A B C D:Int) (rA:Rg A) (rB:Rg B):loN o A B C D 4=min (min (endK o A C false) (endK o A D false)) (min (endK o B C false) (endK o B D false)):=by
 have h1:=endK_rg o A C false rA
 have e:loN o A B C D 4=min (min (min (min PI (endK o A C false)) (endK o A D false)) (endK o B C false)) (endK o B D false):=rfl
 have:=h1.2
 rw [e];omega
theorem hiN4 (o A B C D:Int) (rA:Rg A) (rB:Rg B):hiN o A B C D 4=max (max (endK o A C true) (endK o A D true)) (max (endK o B C true) (endK o B D true)):=by
 have h1:=endK_rg o A C true rA
 have e:hiN o A B C D 4=max (max (max (max (-PI) (endK o A C true)) (endK o A D true)) (endK o B C true)) (endK o B D true):=rfl
 have:=h1.1
 rw [e];omega
theorem prod_within {A B C D x y:Int} (rA:Rg A) (rB:Rg B) (rC:Rg C) (rD:Rg D) (hx1:A≤x) (hx2:x≤B) (hy1:C≤y) (hy2:y≤D) :
  loN 8 A B C D 4≤endK 8 x y false∧endK 8 x y true≤hiN 8 A B C D 4:=by
 have rx:Rg x:=⟨by have:=rA.1;omega,by have:=rB.2;omega⟩
 have ry:Rg y:=⟨by have:=rC.1;omega,by have:=rD.2;omega⟩
 rw [loN4 8 A B C D rA rB,hiN4 8 A B C D rA rB]
 have a:=fun up=>end8_within rA rB rx ry hx1 hx2 up
 have b:=fun up=>end8_within rC rD ry rA hy1 hy2 up
 have c:=fun up=>end8_within rC rD ry rB hy1 hy2 up
 simp only [end8_comm C,end8_comm D,end8_comm y] at b c
 have a1:=(a false).1
 have b1:=(b false).1
 have c1:=(c false).1
 have a2:=(a true).2
 have b2:=(b true).2
 have c2:=(c true).2
 clear a b c
 omega
theorem end9_PI (x:Int) (up:Bool):endK 9 x PI up=0:=by
 have hP:=PI_pos
 unfold endK;rw [if_neg (by omega),if_neg (by omega),if_neg (by omega),if_pos (.inl rfl)]
theorem end9_case (x y:Int) (rx:Rg x) (hy:0<y) (hy2:y<PI) (up:Bool) :
  (Fi x∧endK 9 x y up=rnd up (cDiv x y))∨((x=PI∨x = -PI)∧endK 9 x y up=x):=by
 have hP:=PI_pos
 obtain ⟨x1,x2⟩:=rx
 unfold endK
 by_cases h : -PI<x∧x<PI ∧ -PI<y∧y<PI
 ·rw [if_pos h];exact .inl ⟨⟨h.1,h.2.1⟩,rfl⟩
 ·rw [if_neg h,if_neg (by omega),if_neg (by omega),if_neg (by omega)]
  exact .inr ⟨by omega,rfl⟩
theorem end9_mono {x x' y:Int} (rx:Rg x) (rx':Rg x') (hx:x≤x') (hy:0<y) (hy2:y≤PI) (up:Bool):endK 9 x y up≤endK 9 x' y up:=by
 have hP:=PI_pos
 have r1:=endK_rg 9 x y up rx
 have r2:=endK_rg 9 x' y up rx'
 by_cases he:y=PI
 ·rw [he,end9_PI,end9_PI];exact Int.le_refl _
 rcases end9_case x y rx hy (by omega) up with ⟨f1,e⟩|⟨f1,e⟩<;>rcases end9_case x' y rx' hy (by omega) up with ⟨g1,e'⟩|⟨g1,e'⟩<;>rw [e,e']
 ·exact quot_mono hx hy up
 ·rw [e] at r1;unfold Fi Rg at *;omega
 ·rw [e'] at r2;unfold Fi Rg at *;omega
 ·exact hx
theorem end9_zero (y:Int) (hy:0<y) (hy2:y≤PI) (up:Bool):endK 9 0 y up=0:=by
 by_cases he:y=PI
 ·rw [he,end9_PI]
 ·rw [endK_fi fi_zero ⟨by have:=PI_pos;omega,by omega⟩,roundK_9,quot_zero y (by omega)]
theorem end9_nn {x y:Int} (rx:Rg x) (hx:0≤x) (hy:0<y) (hy2:y≤PI) (up:Bool):0≤endK 9 x y up:=by
 have h:=end9_mono Rg_zero rx hx hy hy2 up
 rw [end9_zero y hy hy2] at h;exact h
theorem end9_np {x y:Int} (rx:Rg x) (hx:x≤0) (hy:0<y) (hy2:y≤PI) (up:Bool):endK 9 x y up≤0:=by
 have h:=end9_mono rx Rg_zero hx hy hy2 up
 rw [end9_zero y hy hy2] at h;exact h
theorem end9_anti {x y y':Int} (rx:Rg x) (hx:0≤x) (hy:0<y) (hyy:y≤y') (hy2:y'≤PI) (up:Bool):endK 9 x y' up≤endK 9 x y up:=by
 have hP:=PI_pos
 by_cases he:y'=PI
 ·rw [he,end9_PI];exact end9_nn rx hx hy (by omega) up
 ·rcases end9_case x y rx hy (by omega) up with ⟨f1,e⟩|⟨f1,e⟩<;>rcases end9_case x y' rx (by omega) (by omega) up with ⟨g1,e'⟩|⟨g1,e'⟩<;>rw [e,e']
  ·exact quot_anti hx hy hyy up
  ·unfold Fi at *;omega
  ·unfold Fi at *;omega
  ·exact Int.le_refl _
theorem end9_flip {x y:Int} (rx:Rg x) (hy:0<y) (hy2:y≤PI) (up:Bool):endK 9 (-x) y (!up) = -endK 9 x y up:=by
 have hP:=PI_pos
 by_cases he:y=PI
 ·rw [he,end9_PI,end9_PI];rfl
 ·rcases end9_case x y rx hy (by omega) up with ⟨f1,e⟩|⟨f1,e⟩<;>rcases end9_case (-x) y (Rg_neg rx) hy (by omega) (!up) with ⟨g1,e'⟩|⟨g1,e'⟩<;>rw [e,e']
  ·exact quot_flip x y (by omega) up
  ·unfold Fi at *;omega
  ·unfold Fi at *;omega
theorem end9_rise {x y y':Int} (rx:Rg x) (hx:x≤0) (hy:0<y) (hyy:y≤y') (hy2:y'≤PI) (up:Bool):endK 9 x y up≤endK 9 x y' up:=by
 have h:=end9_anti (Rg_neg rx) (show 0 ≤ -x by omega) hy hyy hy2 (!up)
 rw [end9_flip rx hy (by omega) up,end9_flip rx (by omega) hy2 up] at h
 omega
noncomputable def qLo (a c d:Int):Int:=if 0≤a then endK 9 a d false else if 0<c then endK 9 a c false else -PI
noncomputable def qHi (b c d:Int):Int:=if b≤0 then endK 9 b d true else if 0<c then endK 9 b c true else PI
theorem divP_q {a b c d:Int} (rA:Rg a) (rB:Rg b) (hab:a≤b) (hc:0≤c) (hd:0<d) (hcd:c≤d) (hd2:d≤PI):divPLo a b c d=qLo a c d∧divPHi a b c d=qHi b c d:=by
 have hP:=PI_pos
 unfold divPLo divPHi
 by_cases h0:a=0∧b=0
 ·rw [if_pos h0,if_pos h0]
  unfold qLo qHi
  rw [h0.1,h0.2,if_pos (by omega),if_pos (by omega),end9_zero d hd hd2,end9_zero d hd hd2]
  exact ⟨rfl,rfl⟩
 ·rw [if_neg h0,if_neg h0]
  by_cases h1:0<c∧d<PI
  ·rw [if_pos h1,if_pos h1,loN4 9 a b c d rA rB,hiN4 9 a b c d rA rB]
   have hc':=h1.1
   have m1:=fun up=>end9_mono rA rB hab hc' (by omega) up
   have m2:=fun up=>end9_mono rA rB hab hd (by omega) up
   constructor
   ·unfold qLo
    by_cases ha:0≤a
    ·rw [if_pos ha]
     have:=m1 false
     have:=m2 false
     have:=end9_anti rA ha hc' hcd hd2 false
     have:=end9_anti rB (by omega) hc' hcd hd2 false
     omega
    ·rw [if_neg ha,if_pos hc']
     have:=m1 false
     have:=m2 false
     have:=end9_rise rA (by omega) hc' hcd hd2 false
     omega
   ·unfold qHi
    by_cases hb:b≤0
    ·rw [if_pos hb]
     have:=m1 true
     have:=m2 true
     have:=end9_rise rA (by omega) hc' hcd hd2 true
     have:=end9_rise rB hb hc' hcd hd2 true
     omega
    ·rw [if_neg hb,if_pos hc']
     have:=m1 true
     have:=m2 true
     have:=end9_anti rB (by omega) hc' hcd hd2 true
     omega
  ·rw [if_neg h1,if_neg h1]
   exact ⟨rfl,rfl⟩
theorem qLo_mono {a a' c c' d d':Int} (rA:Rg a) (rA':Rg a') (ha:a≤a') (hc:0≤c) (hcc:c≤c') (hd':0<d') (hdd:d'≤d) (hcd:c'≤d') (hd2:d≤PI):qLo a c d≤qLo a' c' d':=by
 have hP:=PI_pos
 unfold qLo
 by_cases h1:0≤a'
 ·rw [if_pos h1]
  by_cases h2:0≤a
  ·rw [if_pos h2]
   exact Int.le_trans (end9_anti rA h2 hd' hdd hd2 false) (end9_mono rA rA' ha hd' (by omega) false)
  ·rw [if_neg h2]
   have e:=end9_nn rA' h1 hd' (by omega) false
   by_cases h3:0<c
   ·rw [if_pos h3]
    have:=end9_np rA (by omega) h3 (by omega) false
    omega
   ·rw [if_neg h3];omega
 ·rw [if_neg h1,if_neg (show ¬0≤a by omega)]
  by_cases h3:0<c
  ·rw [if_pos h3,if_pos (show 0<c' by omega)]
   exact Int.le_trans (end9_mono rA rA' ha h3 (by omega) false) (end9_rise rA' (by omega) h3 hcc (by omega) false)
  ·rw [if_neg h3]
   by_cases h4:0<c'
   ·rw [if_pos h4];exact (endK_rg 9 a' c' false rA').1
   ·rw [if_neg h4];exact Int.le_refl _
theorem qHi_qLo {b c d:Int} (rB:Rg b) (hc:0≤c) (hd:0<d) (hcd:c≤d) (hd2:d≤PI):qHi b c d = -qLo (-b) c d:=by
 have hP:=PI_pos
 unfold qHi qLo
 by_cases h:b≤0
 ·rw [if_pos h,if_pos (show 0 ≤ -b by omega)]
  have:=end9_flip rB hd hd2 true
  rw [show (!true)=false from rfl] at this
  omega
 ·rw [if_neg h,if_neg (show ¬0 ≤ -b by omega)]
  by_cases h3:0<c
  ·rw [if_pos h3,if_pos h3]
   have:=end9_flip rB h3 (by omega) true
   rw [show (!true)=false from rfl] at this
   omega
  ·rw [if_neg h3,if_neg h3,Int.neg_neg]
theorem qHi_mono {b b' c c' d d':Int} (rB:Rg b) (rB':Rg b') (hb:b'≤b) (hc:0≤c) (hcc:c≤c') (hd':0<d') (hdd:d'≤d) (hcd:c'≤d') (hd2:d≤PI):qHi b' c' d'≤qHi b c d:=by
 rw [qHi_qLo rB hc (by omega) (by omega) hd2,qHi_qLo rB' (by omega) hd' hcd (by omega)]
 have:=qLo_mono (Rg_neg rB) (Rg_neg rB') (show -b ≤ -b' by omega) hc hcc hd' hdd hcd hd2
 omega
end Go.Proofs.YteephgpefhodnaaGreat
namespace Go.Proofs.YteephgpefhodnaaGreat
open Go.RowKit Go.Sort Go.Fl
set_option linter.unusedSimpArgs false
set_option linter.unusedVariables false
theorem nrm_of {p q:Int} (h:Iv p q):nrmLo p q=p∧nrmHi p q=q:=by
 unfold nrmLo nrmHi
 rw [if_pos h.2.2,if_pos h.2.2];exact ⟨rfl,rfl⟩
theorem NE_pt {x:Int} (h:Fi x):NE x x:=⟨h.rg,h.rg,Int.le_refl _,h.2,h.1⟩
theorem NE.pick {A B:Int} (h:NE A B) : ∃ x,Fi x∧A≤x∧x≤B:=by
 have hP:=PI_pos
 obtain ⟨r1,r2,h1,h2,h3⟩:=h
 unfold Rg at r1 r2
 by_cases hA:A = -PI
 ·by_cases hB:B=PI
  ·exact ⟨0,fi_zero,by omega,by omega⟩
  ·exact ⟨B,⟨by omega,by omega⟩,by omega,by omega⟩
 ·exact ⟨A,⟨by omega,by omega⟩,by omega,by omega⟩
theorem endK_two {o x y:Int} (ho:o=6∨o=8∨o=9) (hy:o=9→y≠0):endK o x y false≤endK o x y true:=by
 unfold endK
 split
 ·obtain ⟨c,hc,e⟩:=cut_round o x y hy (by omega)
  rw [e,e];exact (rnd_two hc).1
 ·exact Int.le_refl _
theorem endK_fi_lt {o x y:Int} (ho:o=6∨o=8∨o=9) (hy:o=9→y≠0) (hx:Fi x) (hy2:Fi y):endK o x y false<PI ∧ -PI<endK o x y true:=by
 obtain ⟨c,hc,e⟩:=cut_round o x y hy (by omega)
 rw [endK_fi hx hy2,endK_fi hx hy2,e,e]
 exact ⟨(low_lt c).1,(high_gt c).1⟩
theorem floor_case {k:Int} (h:Rg k):(k=PI∧floorK k=PI)∨(k = -PI∧floorK k = -PI)∨(Fi k∧E74 ∣ V (floorK k)∧V (floorK k)≤V k∧V k<V (floorK k)+E74):=by
 obtain ⟨h1,h2⟩:=h
 by_cases a:k=PI
 ·rw [a];exact .inl ⟨rfl,floor_PI⟩
 by_cases b:k = -PI
 ·rw [b];exact .inr (.inl ⟨rfl,floor_MI⟩)
 have f:Fi k:=⟨by omega,by omega⟩
 exact .inr (.inr ⟨f,(floor_facts f.1 f.2).2.2⟩)
theorem floor_le {k:Int} (h:Rg k):floorK k≤k:=by
 rcases floor_case h with ⟨a,b⟩|⟨a,b⟩|⟨a,b,c,d⟩
 ·omega
 ·omega
 ·exact V_le_iff.1 c
theorem dvd_lt {E a b:Int} (hE:0<E) (ha:E ∣ a) (hb:E ∣ b) (h:a<b+E):a≤b:=by
 obtain ⟨s,rfl⟩:=ha
 obtain ⟨t,rfl⟩:=hb
 have:E*s<E*(t+1):=by rw [Int.mul_add,Int.mul_one];exact h
 have:=Int.lt_of_mul_lt_mul_left this (Int.le_of_lt hE)
 exact Int.mul_le_mul_of_nonneg_left (by omega) (Int.le_of_lt hE)
theorem floor_mono {j k:Int} (hj:Rg j) (hk:Rg k) (h:j≤k):floorK j≤floorK k:=by
 have r1:=floorK_rg hj
 have r2:=floorK_rg hk
 unfold Rg at *
 rcases floor_case hj with ⟨a,b⟩|⟨a,b⟩|⟨a,b,c,d⟩
 ·rcases floor_case hk with ⟨a',b'⟩|⟨a',b'⟩|⟨a',b',c',d'⟩<;>(try unfold Fi at *)<;>omega
 ·omega
 ·rcases floor_case hk with ⟨a',b'⟩|⟨a',b'⟩|⟨a',b',c',d'⟩
  ·omega
  ·unfold Fi at *;omega
  ·refine V_le_iff.1 (dvd_lt E74_pos b b' ?_)
   have:=V_le h
   omega
theorem E74_le:E74≤(ulp (INF-1):Int):=by
 obtain ⟨n,hn⟩ : ∃ n,n=(INF-1) / 2^52-1:=⟨_,rfl⟩
 have hn2:X74≤n:=by rw [hn];decide
 have e:ulp (INF-1)=2^n:=by unfold ulp;rw [hn]
 rw [e]
 unfold E74
 have:=Nat.pow_le_pow_right (show 0<2 by decide) hn2
 have h2:=Int.ofNat_le.2 this
 rw [Int.natCast_pow,Int.natCast_pow] at h2
 rw [Int.natCast_pow]
 exact h2
theorem floor_gt {k:Int} (h:Rg k) (h1 : -PI<k) : -PI<floorK k:=by
 have hP:=PI_pos
 have r:=floorK_rg h
 rcases floor_case h with ⟨a,b⟩|⟨a,b⟩|⟨a,b,c,d⟩
 ·omega
 ·omega
 ·refine Int.not_le.1 fun hl => ?_
  have e:floorK k = -PI:=by have:=r.1;omega
  rw [e] at d
  have v:=V_le (show -(PI-1)≤k by have:=a.1;omega)
  rw [V_neg] at v d
  have e1:V PI=V (PI-1)+(ulp (INF-1):Int):=by
   have:PI=((INF-1+1:Nat):Int):=by decide
   have h2:PI-1=((INF-1:Nat):Int):=by decide
   rw [h2,this,V_nat,V_nat,M_succ,Int.natCast_add]
  have:=E74_le
  omega
theorem abs_facts {A B:Int} (h:NE A B):0≤absLo A B∧absLo A B≤absHi A B∧absLo A B<PI∧absHi A B≤PI:=by
 have hP:=PI_pos
 obtain ⟨r1,r2,h1,h2,h3⟩:=h
 unfold Rg at *
 unfold absLo absHi
 by_cases a:0≤A
 ·rw [if_pos a,if_pos a];omega
 ·rw [if_neg a,if_neg a]
  by_cases b:B≤0
  ·rw [if_pos b,if_pos b];omega
  ·rw [if_neg b,if_neg b];omega
theorem abs_mono {A B A' B':Int} (h:NE A B) (h':NE A' B') (hA:A≤A') (hB:B'≤B):absLo A B≤absLo A' B'∧absHi A' B'≤absHi A B:=by
 have hP:=PI_pos
 obtain ⟨r1,r2,h1,h2,h3⟩:=h
 obtain ⟨r1',r2',h1',h2',h3'⟩:=h'
 unfold Rg at *
 unfold absLo absHi
 by_cases a:0≤A
 ·rw [if_pos a,if_pos a,if_pos (by omega),if_pos (by omega)];omega
 ·rw [if_neg a,if_neg a]
  by_cases a':0≤A'
  ·rw [if_pos a',if_pos a']
   by_cases b:B≤0
   ·rw [if_pos b,if_pos b];omega
   ·rw [if_neg b,if_neg b];omega
  ·rw [if_neg a',if_neg a']
   by_cases b:B≤0
   ·rw [if_pos b,if_pos b,if_pos (by omega),if_pos (by omega)];omega
   ·rw [if_neg b,if_neg b]
    by_cases b':B'≤0
    ·rw [if_pos b',if_pos b'];omega
    ·rw [if_neg b',if_neg b'];omega
theorem sqr_mono {x y:Int} (rx:Rg x) (ry:Rg y) (h0:0≤x) (h:x≤y) (up:Bool):endK 8 x x up≤endK 8 y y up:=by
 refine Int.le_trans (end8_mono rx ry rx h h0 up) ?_
 rw [end8_comm y x]
 exact end8_mono rx ry ry h (by omega) up
theorem div_case {a b c d:Int} (h:NE a b) (h':NE c d) :
  (c=0∧d=0∧divLo a b c d=PI∧divHi a b c d = -PI) ∨
  (a=0∧b=0∧(c≠0∨d≠0)∧divLo a b c d=0∧divHi a b c d=0) ∨
  (c<0∧0<d∧divLo a b c d = -PI∧divHi a b c d=PI) ∨
  (0≤c∧0<d∧divLo a b c d=qLo a c d∧divHi a b c d=qHi b c d) ∨
  (c<0∧d≤0∧divLo a b c d=qLo (-b) (-d) (-c)∧divHi a b c d=qHi (-a) (-d) (-c)):=by
 have hP:=PI_pos
 obtain ⟨r1,r2,h1,h2,h3⟩:=h
 obtain ⟨r1',r2',h1',h2',h3'⟩:=h'
 have s1:=Rg_neg r1
 have s2:=Rg_neg r2
 have k2:=r2'.2
 have k1:=r1'.1
 unfold divLo divHi
 by_cases g1:c=0∧d=0
 ·rw [if_pos g1,if_pos g1];exact .inl ⟨g1.1,g1.2,rfl,rfl⟩
 ·rw [if_neg g1,if_neg g1]
  by_cases g2:a=0∧b=0
  ·rw [if_pos g2,if_pos g2];exact .inr (.inl ⟨g2.1,g2.2,by omega,rfl,rfl⟩)
  ·rw [if_neg g2,if_neg g2]
   by_cases g3:c<0∧0<d
   ·rw [if_pos g3,if_pos g3];exact .inr (.inr (.inl ⟨g3.1,g3.2,rfl,rfl⟩))
   ·rw [if_neg g3,if_neg g3]
    by_cases g4:d≤0
    ·rw [if_pos g4,if_pos g4]
     obtain ⟨e1,e2⟩:=divP_q s2 s1 (show -b ≤ -a by omega) (show 0 ≤ -d by omega) (show 0 < -c by omega) (by omega) (by omega)
     exact .inr (.inr (.inr (.inr ⟨by omega,g4,e1,e2⟩)))
    ·rw [if_neg g4,if_neg g4]
     obtain ⟨e1,e2⟩:=divP_q r1 r2 h1 (show 0≤c by omega) (show 0<d by omega) (by omega) (by omega)
     exact .inr (.inr (.inr (.inl ⟨by omega,by omega,e1,e2⟩)))
theorem q_zero {c d:Int} (hd:0<d) (hd2:d≤PI):qLo 0 c d=0∧qHi 0 c d=0:=by
 unfold qLo qHi
 rw [if_pos (by omega),if_pos (by omega),end9_zero d hd hd2,end9_zero d hd hd2];exact ⟨rfl,rfl⟩
theorem q_iv {a b c d:Int} (rA:Rg a) (rB:Rg b) (h:a≤b) (h2:a<PI) (h3 : -PI<b) (hc:0≤c) (hd:0<d) (hcd:c≤d) (hd2:d≤PI) (hc2:c<PI):qLo a c d≤qHi b c d∧qLo a c d<PI ∧ -PI<qHi b c d:=by
 have hP:=PI_pos
 have lt : ∀ a,Rg a→a<PI→qLo a c d<PI:=fun a rA h2=>by
  unfold qLo
  by_cases h0:0≤a
  ·rw [if_pos h0]
   by_cases hd':d=PI
   ·rw [hd',end9_PI];omega
   ·exact (endK_fi_lt (.inr (.inr rfl)) (fun _=>by omega) ⟨by omega,h2⟩ ⟨by omega,by omega⟩).1
  ·rw [if_neg h0]
   by_cases hc':0<c
   ·rw [if_pos hc']
    have:=end9_np rA (by omega) hc' (by omega) false
    omega
   ·rw [if_neg hc'];omega
 refine ⟨?_,lt a rA h2,?_⟩
 ·have t9 : ∀ x y,y≠0→endK 9 x y false≤endK 9 x y true:=fun x y hy=>endK_two (.inr (.inr rfl)) (fun _=>hy)
  unfold qLo qHi
  by_cases h0:0≤a
  ·rw [if_pos h0]
   by_cases hb:b≤0
   ·rw [if_pos hb]
    have e1:a=0:=by omega
    have e2:b=0:=by omega
    rw [e1,e2];exact t9 _ _ (by omega)
   ·rw [if_neg hb]
    by_cases hc':0<c
    ·rw [if_pos hc']
     have:=t9 a d (by omega)
     have:=end9_mono rA rB h hd hd2 true
     have:=end9_anti rB (by omega) hc' hcd hd2 true
     omega
    ·rw [if_neg hc'];exact (endK_rg 9 a d false rA).2
  ·rw [if_neg h0]
   by_cases hc':0<c
   ·rw [if_pos hc']
    by_cases hb:b≤0
    ·rw [if_pos hb]
     have:=t9 a d (by omega)
     have:=end9_mono rA rB h hd hd2 true
     have:=end9_rise rA (by omega) hc' hcd hd2 false
     omega
    ·rw [if_neg hb,if_pos hc']
     have:=end9_np rA (by omega) hc' (by omega) false
     have:=end9_nn rB (by omega) hc' (by omega) true
     omega
   ·rw [if_neg hc']
    by_cases hb:b≤0
    ·rw [if_pos hb];exact (endK_rg 9 b d true rB).1
    ·rw [if_neg hb,if_neg hc'];omega
 ·rw [qHi_qLo rB hc hd hcd hd2]
  have:=lt (-b) (Rg_neg rB) (by omega)
  omega
theorem div_iv {a b c d:Int} (h:NE a b) (h':NE c d):Iv (divLo a b c d) (divHi a b c d):=by
 have hP:=PI_pos
 have hr:=div_rg a b c d h.1 h.2.1
 refine ⟨hr.1,hr.2,?_⟩
 obtain ⟨r1,r2,h1,h2,h3⟩:=id h
 obtain ⟨r1',r2',h1',h2',h3'⟩:=id h'
 have k2:=r2'.2
 have k1:=r1'.1
 rcases div_case h h' with ⟨e1,e2,e3,e4⟩|⟨e1,e2,e0,e3,e4⟩|⟨e1,e2,e3,e4⟩|⟨e1,e2,e3,e4⟩|⟨e1,e2,e3,e4⟩<;>rw [e3,e4]
 ·exact .inl ⟨rfl,rfl⟩
 ·omega
 ·omega
 ·exact .inr (q_iv r1 r2 h1 h2 h3 e1 e2 h1' k2 h2')
 ·exact .inr (q_iv (Rg_neg r2) (Rg_neg r1) (by omega) (by omega) (by omega) (by omega) (by omega) (by omega) (by omega) (by omega))
theorem div_mono {a b c d a' b' c' d':Int} (h:NE a b) (h':NE c d) (g:NE a' b') (g':NE c' d') (s1:a≤a') (s2:b'≤b) (s3:c≤c') (s4:d'≤d) :
  divHi a' b' c' d'<divLo a' b' c' d'∨(divLo a b c d≤divLo a' b' c' d'∧divHi a' b' c' d'≤divHi a b c d):=by
 have hP:=PI_pos
 have hr:=div_rg a' b' c' d' g.1 g.2.1
 unfold Rg at hr
 obtain ⟨r1,r2,h1,h2,h3⟩:=id h
 obtain ⟨r1',r2',h1',h2',h3'⟩:=id h'
 obtain ⟨p1,p2,p3,p4,p5⟩:=id g
 obtain ⟨p1',p2',p3',p4',p5'⟩:=id g'
 have k2:=r2'.2
 have k1:=r1'.1
 rcases div_case g g' with ⟨f1,f2,f3,f4⟩|⟨f1,f2,f0,f3,f4⟩|⟨f1,f2,f3,f4⟩|⟨f1,f2,f3,f4⟩|⟨f1,f2,f3,f4⟩
 ·left;omega
 ·right
  rcases div_case h h' with ⟨e1,e2,e3,e4⟩|⟨e1,e2,e0,e3,e4⟩|⟨e1,e2,e3,e4⟩|⟨e1,e2,e3,e4⟩|⟨e1,e2,e3,e4⟩
  ·exfalso;omega
  ·omega
  ·omega
  ·rw [e3,e4,f3,f4]
   have hz:=q_zero (c:=c) e2 (by omega)
   have m1:=qLo_mono r1 Rg_zero (show a≤0 by omega) e1 (Int.le_refl c) e2 (Int.le_refl d) h1' (by omega)
   have m2:=qHi_mono r2 Rg_zero (show 0≤b by omega) e1 (Int.le_refl c) e2 (Int.le_refl d) h1' (by omega)
   omega
  ·rw [e3,e4,f3,f4]
   have hz:=q_zero (c := -d) (show 0 < -c by omega) (by omega)
   have m1:=qLo_mono (Rg_neg r2) Rg_zero (show -b≤0 by omega) (show 0 ≤ -d by omega) (Int.le_refl (-d)) (show 0 < -c by omega) (Int.le_refl (-c)) (by omega) (by omega)
   have m2:=qHi_mono (Rg_neg r1) Rg_zero (show 0 ≤ -a by omega) (show 0 ≤ -d by omega) (Int.le_refl (-d)) (show 0 < -c by omega) (Int.le_refl (-c)) (by omega) (by omega)
   omega
 ·right
  rcases div_case h h' with ⟨e1,e2,e3,e4⟩|⟨e1,e2,e0,e3,e4⟩|⟨e1,e2,e3,e4⟩|⟨e1,e2,e3,e4⟩|⟨e1,e2,e3,e4⟩
  ·exfalso;omega
  ·have f:a'=0∧b'=0:=by omega
   have:divLo a' b' c' d'=0∧divHi a' b' c' d'=0:=by
    unfold divLo divHi
    have n0 : ¬(c'=0∧d'=0):=by omega
    rw [if_neg n0,if_neg n0,if_pos f,if_pos f];exact ⟨rfl,rfl⟩
   omega
  ·omega
  ·exfalso;omega
  ·exfalso;omega
 ·right
  rcases div_case h h' with ⟨e1,e2,e3,e4⟩|⟨e1,e2,e0,e3,e4⟩|⟨e1,e2,e3,e4⟩|⟨e1,e2,e3,e4⟩|⟨e1,e2,e3,e4⟩
  ·exfalso;omega
  ·have f:a'=0∧b'=0:=by omega
   rw [e3,e4,f3,f4,f.1,f.2]
   have hz:=q_zero (c:=c') f2 (by omega)
   omega
  ·omega
  ·rw [e3,e4,f3,f4]
   exact ⟨qLo_mono r1 p1 s1 e1 s3 f2 s4 p3' k2,qHi_mono r2 p2 s2 e1 s3 f2 s4 p3' k2⟩
  ·exfalso;omega
 ·right
  rcases div_case h h' with ⟨e1,e2,e3,e4⟩|⟨e1,e2,e0,e3,e4⟩|⟨e1,e2,e3,e4⟩|⟨e1,e2,e3,e4⟩|⟨e1,e2,e3,e4⟩
  ·exfalso;omega
  ·have f:a'=0∧b'=0:=by omega
   rw [e3,e4,f3,f4,f.1,f.2]
   have hz:=q_zero (c := -d') (show 0 < -c' by omega) (by omega)
   rw [Int.neg_zero]
   omega
  ·omega
  ·exfalso;omega
  ·rw [e3,e4,f3,f4]
   exact ⟨qLo_mono (Rg_neg r2) (Rg_neg p2) (by omega) (by omega) (by omega) (by omega) (by omega) (by omega) (by omega),qHi_mono (Rg_neg r1) (Rg_neg p1) (by omega) (by omega) (by omega) (by omega) (by omega) (by omega) (by omega)⟩
theorem ne_one:NE 4607182418800017408 4607182418800017408:=⟨rg_one,rg_one,Int.le_refl _,by decide,by decide⟩
theorem ok6 {A B C D:Int} (h:NE A B) (h':NE C D):EndOk 6 A C∧EndOk 6 B D∧EndOk 6 A (-D)∧EndOk 6 B (-C):=by
 obtain ⟨r1,r2,h1,h2,h3⟩:=h
 obtain ⟨r1',r2',h1',h2',h3'⟩:=h'
 exact ⟨.inl ⟨rfl,by omega,by omega⟩,.inl ⟨rfl,by omega,by omega⟩,.inl ⟨rfl,by omega,by omega⟩,.inl ⟨rfl,by omega,by omega⟩⟩
theorem NE.neg {C D:Int} (h:NE C D):NE (-D) (-C):=by
 obtain ⟨r1,r2,h1,h2,h3⟩:=h
 exact ⟨Rg_neg r2,Rg_neg r1,by omega,by omega,by omega⟩
theorem sum_iv {A B C D:Int} (h:NE A B) (h':NE C D):endK 6 A C false≤endK 6 B D true∧endK 6 A C false<PI ∧ -PI<endK 6 B D true:=by
 have hP:=PI_pos
 obtain ⟨o1,o2,_,_⟩:=ok6 h h'
 obtain ⟨r1,r2,h1,h2,h3⟩:=h
 obtain ⟨r1',r2',h1',h2',h3'⟩:=h'
 refine ⟨Int.le_trans (endK_two (.inl rfl) (fun e=>by omega)) (end6_mono r1 r2 r1' r2' o1 o2 h1 h1' true),?_,?_⟩
 ·rcases end6_case A C r1 r1' o1 false with ⟨f1,f2,e⟩|⟨f1,f2,f3,e⟩|⟨f1,f2,f3,e⟩
  ·rw [e];exact (low_lt _).1
  ·omega
  ·omega
 ·rcases end6_case B D r2 r2' o2 true with ⟨f1,f2,e⟩|⟨f1,f2,f3,e⟩|⟨f1,f2,f3,e⟩
  ·rw [e];exact (high_gt _).1
  ·omega
  ·omega
theorem op_iv (o:Int) {A B C D:Int} (h:NE A B) (h':NE C D):Iv (opLo o A B C D) (opHi o A B C D):=by
 have hP:=PI_pos
 have hr:=op_rg o A B C D h.1 h.2.1 h'.1 h'.2.1
 obtain ⟨r1,r2,h1,h2,h3⟩:=id h
 obtain ⟨r1',r2',h1',h2',h3'⟩:=id h'
 by_cases h9:o=9
 ·subst h9;exact div_iv h h'
 by_cases h5:o=5
 ·subst h5;exact div_iv ne_one h
 refine ⟨hr.1,hr.2,?_⟩
 clear hr
 by_cases h0:o=0
 ·subst h0;rw [opLo_0,opHi_0];omega
 by_cases g1:o=1
 ·subst g1;rw [opLo_1,opHi_1]
  have:=abs_facts h
  omega
 by_cases g2:o=2
 ·subst g2;rw [opLo_2,opHi_2]
  obtain ⟨a1,a2,a3,a4⟩:=abs_facts h
  have f:Fi (absLo A B):=⟨by omega,a3⟩
  obtain ⟨l1,l2⟩:=endK_fi_lt (o:=8) (.inr (.inl rfl)) (fun e=>by omega) f f
  have t:=endK_two (o:=8) (x:=absLo A B) (y:=absLo A B) (.inr (.inl rfl)) (fun e=>by omega)
  have m:=sqr_mono f.rg (absHi_rg r1 r2) a1 a2 true
  omega
 by_cases g3:o=3
 ·subst g3;rw [opLo_3,opHi_3]
  by_cases hb:B<0
  ·rw [if_pos hb,if_pos hb];exact .inl ⟨rfl,rfl⟩
  ·rw [if_neg hb,if_neg hb]
   have l:=(low_lt (cSqrt (max A 0))).1
   by_cases hi:B<PI
   ·rw [if_pos hi]
    have a:=(rnd_two (cut_sqrt (max A 0))).1
    have b:=root_mono (show max A 0≤B by omega) true
    have c:=(high_gt (cSqrt B)).1
    unfold sqrtK;omega
   ·rw [if_neg hi]
    unfold sqrtK;omega
 by_cases g4:o=4
 ·subst g4;rw [opLo_4,opHi_4]
  have:=floor_le r1
  have:=floor_mono r1 r2 h1
  have:=floor_gt r2 h3
  omega
 by_cases g6:o=6
 ·subst g6;rw [opLo_6,opHi_6];exact .inr (sum_iv h h')
 by_cases g7:o=7
 ·subst g7;rw [opLo_7,opHi_7];exact .inr (sum_iv h h'.neg)
 by_cases g8:o=8
 ·subst g8;rw [opLo_8,opHi_8]
  obtain ⟨x,fx,x1,x2⟩:=h.pick
  obtain ⟨y,fy,y1,y2⟩:=h'.pick
  obtain ⟨w1,w2⟩:=prod_within r1 r2 r1' r2' x1 x2 y1 y2
  obtain ⟨l1,l2⟩:=endK_fi_lt (o:=8) (.inr (.inl rfl)) (fun e=>by omega) fx fy
  have t:=endK_two (o:=8) (x:=x) (y:=y) (.inr (.inl rfl)) (fun e=>by omega)
  omega
 by_cases g10:o=10
 ·subst g10;rw [opLo_10,opHi_10];omega
 have e1:opLo o A B C D=max A C:=by unfold opLo;rw [if_neg h0,if_neg g1,if_neg g2,if_neg g3,if_neg g4,if_neg h5,if_neg g6,if_neg g7,if_neg g8,if_neg h9,if_neg g10]
 have e2:opHi o A B C D=max B D:=by unfold opHi;rw [if_neg h0,if_neg g1,if_neg g2,if_neg g3,if_neg g4,if_neg h5,if_neg g6,if_neg g7,if_neg g8,if_neg h9,if_neg g10]
 rw [e1,e2];omega
theorem op_mono (o:Int) {A B C D A' B' C' D':Int} (h:NE A B) (h':NE C D) (g:NE A' B') (g':NE C' D') (s1:A≤A') (s2:B'≤B) (s3:C≤C') (s4:D'≤D) :
  opHi o A' B' C' D'<opLo o A' B' C' D'∨(opLo o A B C D≤opLo o A' B' C' D'∧opHi o A' B' C' D'≤opHi o A B C D):=by
 have hP:=PI_pos
 obtain ⟨r1,r2,h1,h2,h3⟩:=id h
 obtain ⟨r1',r2',h1',h2',h3'⟩:=id h'
 obtain ⟨p1,p2,p3,p4,p5⟩:=id g
 obtain ⟨p1',p2',p3',p4',p5'⟩:=id g'
 by_cases h9:o=9
 ·subst h9;exact div_mono h h' g g' s1 s2 s3 s4
 by_cases h5:o=5
 ·subst h5;exact div_mono ne_one h ne_one g (Int.le_refl _) (Int.le_refl _) s1 s2
 by_cases h0:o=0
 ·subst h0;rw [opLo_0,opHi_0,opLo_0,opHi_0];omega
 by_cases g1:o=1
 ·subst g1;rw [opLo_1,opHi_1,opLo_1,opHi_1]
  have:=abs_mono h g s1 s2
  omega
 by_cases g2:o=2
 ·subst g2;rw [opLo_2,opHi_2,opLo_2,opHi_2]
  have m:=abs_mono h g s1 s2
  have a:=abs_facts h
  have a':=abs_facts g
  exact .inr ⟨sqr_mono (absLo_rg r1 r2) (absLo_rg p1 p2) a.1 m.1 false,sqr_mono (absHi_rg p1 p2) (absHi_rg r1 r2) (by omega) m.2 true⟩
 by_cases g3:o=3
 ·subst g3;rw [opLo_3,opHi_3,opLo_3,opHi_3]
  by_cases hb:B'<0
  ·rw [if_pos hb,if_pos hb];omega
  ·rw [if_neg hb,if_neg hb,if_neg (show ¬B<0 by omega),if_neg (show ¬B<0 by omega)]
   refine .inr ⟨root_mono (by omega) false,?_⟩
   by_cases hi:B<PI
   ·rw [if_pos hi,if_pos (by omega)]
    exact root_mono s2 true
   ·rw [if_neg hi]
    by_cases hi':B'<PI
    ·rw [if_pos hi'];exact (rnd_rg _ _).2
    ·rw [if_neg hi'];exact Int.le_refl _
 by_cases g4:o=4
 ·subst g4;rw [opLo_4,opHi_4,opLo_4,opHi_4]
  exact .inr ⟨floor_mono r1 p1 s1,floor_mono p2 r2 s2⟩
 by_cases g6:o=6
 ·subst g6;rw [opLo_6,opHi_6,opLo_6,opHi_6]
  obtain ⟨o1,o2,_,_⟩:=ok6 h h'
  obtain ⟨q1,q2,_,_⟩:=ok6 g g'
  exact .inr ⟨end6_mono r1 p1 r1' p1' o1 q1 s1 s3 false,end6_mono p2 r2 p2' r2' q2 o2 s2 s4 true⟩
 by_cases g7:o=7
 ·subst g7;rw [opLo_7,opHi_7,opLo_7,opHi_7]
  obtain ⟨_,_,o1,o2⟩:=ok6 h h'
  obtain ⟨_,_,q1,q2⟩:=ok6 g g'
  exact .inr ⟨end6_mono r1 p1 (Rg_neg r2') (Rg_neg p2') o1 q1 s1 (by omega) false,end6_mono p2 r2 (Rg_neg p1') (Rg_neg r1') q2 o2 s2 (by omega) true⟩
 by_cases g8:o=8
 ·subst g8;rw [opLo_8,opHi_8,opLo_8,opHi_8]
  right
  have w1:=prod_within r1 r2 r1' r2' s1 (show A'≤B by omega) s3 (show C'≤D by omega)
  have w2:=prod_within r1 r2 r1' r2' s1 (show A'≤B by omega) (show C≤D' by omega) s4
  have w3:=prod_within r1 r2 r1' r2' (show A≤B' by omega) s2 s3 (show C'≤D by omega)
  have w4:=prod_within r1 r2 r1' r2' (show A≤B' by omega) s2 (show C≤D' by omega) s4
  rw [loN4 8 A' B' C' D' p1 p2,hiN4 8 A' B' C' D' p1 p2]
  clear h h' g g' r1 r2 r1' r2' p1 p2 p1' p2'
  omega
 by_cases g10:o=10
 ·subst g10;rw [opLo_10,opHi_10,opLo_10,opHi_10];omega
 have e1 : ∀ A B C D,opLo o A B C D=max A C:=fun A B C D=>by unfold opLo;rw [if_neg h0,if_neg g1,if_neg g2,if_neg g3,if_neg g4,if_neg h5,if_neg g6,if_neg g7,if_neg g8,if_neg h9,if_neg g10]
 have e2 : ∀ A B C D,opHi o A B C D=max B D:=fun A B C D=>by unfold opHi;rw [if_neg h0,if_neg g1,if_neg g2,if_neg g3,if_neg g4,if_neg h5,if_neg g6,if_neg g7,if_neg g8,if_neg h9,if_neg g10]
 rw [e1,e2,e1,e2];omega
theorem ap_uses {o A B C D:Int} (ho:0≤o∧o≤11) (h:NE A B) (h':NE C D):Uses o A B C D:=by
 have a:=h.no
 have b:=h'.no
 unfold Uses
 by_cases h5:o≤5
 ·exact .inl ⟨ho.1,h5,a⟩
 ·exact .inr ⟨by omega,ho.2,a,b⟩
theorem ap_eq {o A B C D:Int} (ho:0≤o∧o≤11) (h:NE A B) (h':NE C D):apLo o A B C D=opLo o A B C D∧apHi o A B C D=opHi o A B C D:=by
 unfold apLo apHi
 rw [if_pos (ap_uses ho h h'),if_pos (ap_uses ho h h')]
 exact nrm_of (op_iv o h h')
end Go.Proofs.YteephgpefhodnaaGreat
namespace Go.Proofs.YteephgpefhodnaaGreat
open Go.RowKit Go.Sort Go.Fl
set_option linter.unusedSimpArgs false
set_option linter.unusedVariables false
theorem minus_turn {A B C D:Int} (h:NE A B) (h':NE C D):opLo 7 C D A B = -opHi 7 A B C D∧opHi 7 C D A B = -opLo 7 A B C D:=by
 obtain ⟨_,_,o1,o2⟩:=ok6 h h'
 rw [opLo_7,opHi_7,opLo_7,opHi_7]
 have a:=end6_flip h.2.1 (Rg_neg h'.1) o2 true
 have b:=end6_flip h.1 (Rg_neg h'.2.1) o1 false
 rw [Int.neg_neg,end6_comm] at a b
 exact ⟨a,b⟩
theorem add_turn (A B C D:Int):opLo 6 C D A B=opLo 6 A B C D∧opHi 6 C D A B=opHi 6 A B C D:=by
 rw [opLo_6,opHi_6,opLo_6,opHi_6]
 exact ⟨end6_comm _ _ _,end6_comm _ _ _⟩
theorem mul_turn {A B C D:Int} (h:NE A B) (h':NE C D):opLo 8 C D A B=opLo 8 A B C D∧opHi 8 C D A B=opHi 8 A B C D:=by
 rw [opLo_8,opHi_8,opLo_8,opHi_8,loN4 8 A B C D h.1 h.2.1,loN4 8 C D A B h'.1 h'.2.1,hiN4 8 A B C D h.1 h.2.1,hiN4 8 C D A B h'.1 h'.2.1]
 simp only [end8_comm C,end8_comm D]
 generalize endK 8 A C false=p1
 generalize endK 8 A D false=p2
 generalize endK 8 B C false=p3
 generalize endK 8 B D false=p4
 generalize endK 8 A C true=q1
 generalize endK 8 A D true=q2
 generalize endK 8 B C true=q3
 generalize endK 8 B D true=q4
 omega
theorem abs_ne {A B:Int} (h:NE A B):NE (absLo A B) (absHi A B):=by
 have hP:=PI_pos
 have a:=abs_facts h
 exact ⟨absLo_rg h.1 h.2.1,absHi_rg h.1 h.2.1,by omega,by omega,by omega⟩
theorem sqr_abs {A B:Int} (h:NE A B) (C D C' D':Int):opLo 8 (absLo A B) (absHi A B) (absLo A B) (absHi A B)=opLo 2 A B C D∧opHi 8 (absLo A B) (absHi A B) (absLo A B) (absHi A B)=opHi 2 A B C' D':=by
 have a:=abs_facts h
 have n:=abs_ne h
 rw [opLo_8,opHi_8,opLo_2,opHi_2,loN4 8 _ _ _ _ n.1 n.2.1,hiN4 8 _ _ _ _ n.1 n.2.1]
 obtain ⟨r1,r2,_⟩:=n
 generalize absLo A B=L at *
 generalize absHi A B=H at *
 have m:=fun up=>end8_mono r1 r2 r1 a.2.1 a.1 up
 have m':=fun up=>end8_mono r1 r2 r2 a.2.1 (show 0≤H by omega) up
 have m1:=m false
 have m2:=m true
 have m3:=m' false
 have m4:=m' true
 clear m m'
 simp only [end8_comm H L] at m1 m2 m3 m4 ⊢
 omega
theorem min_turn (A B C D:Int) : -opHi 11 (-B) (-A) (-D) (-C)=opLo 10 A B C D ∧ -opLo 11 (-B) (-A) (-D) (-C)=opHi 10 A B C D:=by
 rw [opLo_10,opHi_10,opLo_11,opHi_11];omega
theorem op_point {o x y:Int} (hx:Fi x) (hy:Fi y) (h:(o=3∧0≤x)∨o=6∨o=7∨o=8∨(o=9∧y≠0)):opLo o x x y y=roundK o x y false∧opHi o x x y y=roundK o x y true:=by
 have hP:=PI_pos
 rcases h with ⟨rfl,h⟩|rfl|rfl|rfl|⟨rfl,h⟩
 ·rw [opLo_3,opHi_3,if_neg (by omega),if_neg (by omega),if_pos hx.2,Int.max_eq_left h];exact ⟨rfl,rfl⟩
 ·rw [opLo_6,opHi_6,endK_fi hx hy,endK_fi hx hy];exact ⟨rfl,rfl⟩
 ·rw [opLo_7,opHi_7,endK_fi hx hy.neg,endK_fi hx hy.neg];exact ⟨rfl,rfl⟩
 ·rw [opLo_8,opHi_8,loN4 8 x x y y hx.rg hx.rg,hiN4 8 x x y y hx.rg hx.rg,endK_fi hx hy,endK_fi hx hy];omega
 ·rw [opLo_9,opHi_9]
  have fx:=hx.rg
  rcases div_case (NE_pt hx) (NE_pt hy) with ⟨e1,e2,e3,e4⟩|⟨e1,e2,e0,e3,e4⟩|⟨e1,e2,e3,e4⟩|⟨e1,e2,e3,e4⟩|⟨e1,e2,e3,e4⟩
  ·omega
  ·rw [e3,e4,e1,roundK_9,roundK_9,quot_zero y h,quot_zero y h];exact ⟨rfl,rfl⟩
  ·omega
  ·rw [e3,e4]
   unfold qLo qHi
   rw [if_pos e2,if_pos e2,endK_fi hx hy,endK_fi hx hy]
   constructor<;>split<;>rfl
  ·rw [e3,e4]
   have e5:0 < -y:=by omega
   unfold qLo qHi
   rw [if_pos e5,if_pos e5,endK_fi hx.neg hy.neg,endK_fi hx.neg hy.neg,roundK_9,roundK_9,roundK_9,roundK_9,cDiv_neg x y h]
   constructor<;>split<;>rfl
theorem op_point_two {o x y:Int} (h:(o=3∧0≤x)∨o=6∨o=7∨o=8∨(o=9∧y≠0)):roundK o x y false≤roundK o x y true∧roundK o x y true≤roundK o x y false+1∧roundK o x y false<PI ∧ -PI<roundK o x y true:=by
 obtain ⟨c,hc,e⟩:=cut_round o x y (fun _=>by omega) (by omega)
 rw [e,e]
 exact ⟨(rnd_two hc).1,(rnd_two hc).2,(low_lt c).1,(high_gt c).1⟩
end Go.Proofs.YteephgpefhodnaaGreat
namespace Go.Proofs.YteephgpefhodnaaGreat
open Go.RowKit Go.Sort Go.Fl
set_option linter.unusedSimpArgs false
set_option linter.unusedVariables false
theorem sub_self {x:Nat} (hx:fin x) : ∃ r,FloatKind.f64.format.sub x x=some r ∧ ¬nan r∧Wd r∧key r=0:=by
 obtain ⟨r,h1,h2,h3,h4⟩:=sub_fin hx hx
 refine ⟨r,h1,h2,h3,?_⟩
 exact near_exact h4 (by decide) (by decide) (by rw [V_zero];omega)
theorem sub_self_no {x:Nat} (hx : ¬fin x):FloatKind.f64.format.sub x x=none:=by
 rw [fmt]
 unfold Ieee.Format.sub
 by_cases h:nan x
 ·obtain ⟨t,ht⟩:=read_nan h;rw [ht];rfl
 ·have hi:rung x=INF:=by unfold nan at h;unfold fin at hx;omega
  rw [read_inf hi]
  cases neg x<;>rfl
theorem run_sub_self {P:Program} (x:Nat) (hx:fin x) : ∃ r,¬nan r∧Wd r∧key r=0 ∧ ∀ (w:World) (t:TypeId),(binOp .sub t (.float .f64 x) (.float .f64 x)).run P w = .ok (.float .f64 r) w:=by
 obtain ⟨r,h1,h2,h3,h4⟩:=sub_self hx
 exact ⟨r,h2,h3,h4,fun w t=>run_float_arith w .sub t .f64 x x r h1⟩
theorem run_sub_self_no {P:Program} (x:Nat) (hx : ¬fin x) (w:World) (t:TypeId):(binOp .sub t (.float .f64 x) (.float .f64 x)).run P w = .ok (.float .f64 (nanw w x x)) w.drew:=by
 simp [binOp,Op.floatArith,sub_self_no hx,Question.forced,nanw]
theorem is_k (r A B C D:Int) (h:Iv A B) (h':Iv C D) (w:World) :
  Calls Tryz.prog 24 #[.int .i64 r,.agg #[.float .f64 (ofKey (A)),.float .f64 (ofKey (B))],.agg #[.float .f64 (ofKey (C)),.float .f64 (ofKey (D))]] w fun e w'=>e = .returned (.bool (isB r A B C D))∧Below w.heap.size w w':=by
 have a:=tk_canon h
 have b:=tk_canon h'
 have c:=spansis_any r (ofKey A) (ofKey B) (ofKey C) (ofKey D) (ofKey_lt h.1) (ofKey_lt h.2.1) (ofKey_lt h'.1) (ofKey_lt h'.2.1) w
 rw [a.1,a.2,b.1,b.2] at c
 exact c
theorem meet_k (A B C D:Int) (h:Iv A B) (h':Iv C D) (w:World) :
  Calls Tryz.prog 26 #[.agg #[.float .f64 (ofKey (A)),.float .f64 (ofKey (B))],.agg #[.float .f64 (ofKey (C)),.float .f64 (ofKey (D))]] w fun e w'=>e = .returned (.agg #[.float .f64 (ofKey (meetLo A B C D)),.float .f64 (ofKey (meetHi A B C D))])∧Below w.heap.size w w':=by
 have a:=tk_canon h
 have b:=tk_canon h'
 have c:=spansmeet_any (ofKey A) (ofKey B) (ofKey C) (ofKey D) (ofKey_lt h.1) (ofKey_lt h.2.1) (ofKey_lt h'.1) (ofKey_lt h'.2.1) w
 rw [a.1,a.2,b.1,b.2] at c
 exact c
theorem hull_k (A B C D:Int) (h:Iv A B) (h':Iv C D) (w:World) :
  Calls Tryz.prog 28 #[.agg #[.float .f64 (ofKey (A)),.float .f64 (ofKey (B))],.agg #[.float .f64 (ofKey (C)),.float .f64 (ofKey (D))]] w fun e w'=>e = .returned (.agg #[.float .f64 (ofKey (min A C)),.float .f64 (ofKey (max B D))])∧Below w.heap.size w w':=by
 have a:=tk_canon h
 have b:=tk_canon h'
 have c:=spanshull_any (ofKey A) (ofKey B) (ofKey C) (ofKey D) (ofKey_lt h.1) (ofKey_lt h.2.1) (ofKey_lt h'.1) (ofKey_lt h'.2.1) w
 rw [a.1,a.2,b.1,b.2] at c
 exact c
theorem apply_k (o A B C D:Int) (ho:0≤o∧o≤11) (h:NE A B) (h':NE C D) (w:World) :
  Calls Tryz.prog 22 #[.int .i64 o,.agg #[.float .f64 (ofKey (A)),.float .f64 (ofKey (B))],.agg #[.float .f64 (ofKey (C)),.float .f64 (ofKey (D))]] w fun e w'=>e = .returned (.agg #[.float .f64 (ofKey (opLo o A B C D)),.float .f64 (ofKey (opHi o A B C D))])∧Below w.heap.size w w':=by
 have a:=tk_canon h.iv
 have b:=tk_canon h'.iv
 have c:=spansapply_any o (ofKey A) (ofKey B) (ofKey C) (ofKey D) (ofKey_lt h.1) (ofKey_lt h.2.1) (ofKey_lt h'.1) (ofKey_lt h'.2.1) w
 rw [a.1,a.2,b.1,b.2,(ap_eq ho h h').1,(ap_eq ho h h').2] at c
 exact c
theorem tk_pt {x:Nat} (hx:fin x):tkLo x x=key x∧tkHi x x=key x:=by
 have hk:=fin_key.1 hx
 have hn : ¬nan x:=by unfold nan;unfold fin at hx;omega
 have hP:PI=(INF:Int):=rfl
 have g:good x x=true:=by
  unfold good
  simp [hn]
  omega
 unfold tkLo tkHi
 rw [if_pos g,if_pos g];exact ⟨rfl,rfl⟩
theorem apply_pt (o:Int) (x y:Nat) (ho:0≤o∧o≤11) (hx:fin x) (hy:fin y) (wx:Wd x) (wy:Wd y) (w:World) :
  Calls Tryz.prog 22 #[.int .i64 o,.agg #[.float .f64 (x),.float .f64 (x)],.agg #[.float .f64 (y),.float .f64 (y)]] w fun e w'=>e = .returned (.agg #[.float .f64 (ofKey (opLo o (key x) (key x) (key y) (key y))),.float .f64 (ofKey (opHi o (key x) (key x) (key y) (key y)))])∧Below w.heap.size w w':=by
 have a:=tk_pt hx
 have b:=tk_pt hy
 have hP:PI=(INF:Int):=rfl
 have c:=spansapply_any o x x y y wx wx wy wy w
 have nx:NE (key x) (key x):=NE_pt (by have:=fin_key.1 hx;unfold Fi;omega)
 have ny:NE (key y) (key y):=NE_pt (by have:=fin_key.1 hy;unfold Fi;omega)
 rw [a.1,a.2,b.1,b.2,(ap_eq ho nx ny).1,(ap_eq ho nx ny).2] at c
 exact c
theorem first_no {A B:Int} {x:Nat} (h : ¬(fin x∧A≤key x∧key x≤B)):nan x∨(¬nan x ∧ ¬A≤key x)∨(¬nan x∧A≤key x ∧ ¬key x≤B)∨(¬nan x∧A≤key x∧key x≤B ∧ ¬fin x):=by
 by_cases a:nan x
 ·exact .inl a
 by_cases b:A≤key x
 ·by_cases c:key x≤B
  ·exact .inr (.inr (.inr ⟨a,b,c,fun d=>h ⟨d,b,c⟩⟩))
  ·exact .inr (.inr (.inl ⟨a,b,c⟩))
 ·exact .inr (.inl ⟨a,b⟩)
end Go.Proofs.YteephgpefhodnaaGreat
