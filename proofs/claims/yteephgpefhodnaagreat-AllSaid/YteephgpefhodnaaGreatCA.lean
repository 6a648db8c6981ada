/- Package ivl: the small functions; a sum, product or quotient of two ends. Package ivl: sums and products of intervals. Package ivl: sizes, squares, roots, and the functions that find hands out. -/
import Derived.Test.YteephgpefhodnaaGreatBB
import Derived.Test.YteephgpefhodnaaGreatFC
import Derived.Test.YteephgpefhodnaaGreatA5
import Derived.Test.YteephgpefhodnaaGreatWA
import Derived.LoopTactic
namespace Go.Proofs.YteephgpefhodnaaGreat
open Go.RowKit Go.Sort Go.Fl
set_option linter.unusedSimpArgs false
set_option linter.unusedVariables false
theorem roundK_rg (o x y:Int) (up:Bool):Rg (roundK o x y up):=by
 unfold roundK
 split
 ·exact rnd_rg _ _
 ·split
  ·exact rnd_rg _ _
  ·split
   ·exact rnd_rg _ _
   ·split
    ·exact rnd_rg _ _
    ·exact rnd_rg _ _
theorem ivlwhole_any (w:World) :
  Calls Tryz.prog 138 #[] w fun e w'=>e = .returned (.agg #[.float .f64 (ofKey (-PI)),.float .f64 (ofKey (PI))])∧Below w.heap.size w w':=by
 go_enter Tryz.func138,Tryz.ntmps138
 go_wp2_with (go_at_call 90;refine (ivlinf_any _).mono ?_;rintro e w' ⟨rfl,rfl⟩)
 go_returns
 exact ⟨rfl,by go_grown⟩
theorem ivlzero_any (w:World) :
  Calls Tryz.prog 137 #[] w fun e w'=>e = .returned (.agg #[.float .f64 0,.float .f64 0])∧Below w.heap.size w w':=by
 go_enter Tryz.func137,Tryz.ntmps137
 go_wp2_with fail
 go_returns
 exact ⟨rfl,by go_grown⟩
theorem bounded_any (a b:Int) (ha:Rg a) (hb:Rg b) (w:World) :
  Calls Tryz.prog 92 #[.agg #[.float .f64 (ofKey (a)),.float .f64 (ofKey (b))]] w fun e w'=>e = .returned (.bool (decide (-PI<a∧a<PI ∧ -PI<b∧b<PI)))∧Below w.heap.size w w':=by
 have q1:=ha.1;have q2:=ha.2;have q3:=hb.1;have q4:=hb.2
 by_cases h1 : -PI<a∧a<PI
 ·have FA:=Lib.hid (finite_yes _ (ofKey_lt ha) (fin_ofKey h1.1 h1.2))
  by_cases h2 : -PI<b∧b<PI
  ·have FB:=Lib.hid (finite_yes _ (ofKey_lt hb) (fin_ofKey h2.1 h2.2))
   rw [show decide (-PI<a∧a<PI ∧ -PI<b∧b<PI)=true from decide_eq_true ⟨h1.1,h1.2,h2⟩]
   clear h1 h2 q1 q2 q3 q4
   go_enter Tryz.func92,Tryz.ntmps92
   go_wp2_with (go_at_call 75;(first|(with_reducible refine (FA.out _).mono ?_)|(with_reducible refine (FB.out _).mono ?_));rintro e w' ⟨rfl,rfl⟩)
   go_ret
   exact ⟨rfl,by go_grown⟩
  ·have FB:=Lib.hid (finite_no _ (ofKey_lt hb) (by rw [nan_key_fin (not_nan_ofKey hb),key_ofKey hb];omega))
   rw [show decide (-PI<a∧a<PI ∧ -PI<b∧b<PI)=false from decide_eq_false (fun h=>h2 h.2.2)]
   clear h1 h2 q1 q2 q3 q4
   go_enter Tryz.func92,Tryz.ntmps92
   go_wp2_with (go_at_call 75;(first|(with_reducible refine (FA.out _).mono ?_)|(with_reducible refine (FB.out _).mono ?_));rintro e w' ⟨rfl,rfl⟩)
   go_ret
   exact ⟨rfl,by go_grown⟩
 ·have FA:=Lib.hid (finite_no _ (ofKey_lt ha) (by rw [nan_key_fin (not_nan_ofKey ha),key_ofKey ha];omega))
  rw [show decide (-PI<a∧a<PI ∧ -PI<b∧b<PI)=false from decide_eq_false (fun h=>h1 ⟨h.1,h.2.1⟩)]
  clear h1 q1 q2 q3 q4
  go_enter Tryz.func92,Tryz.ntmps92
  go_wp2_with (go_at_call 75;refine (FA.out _).mono ?_;rintro e w' ⟨rfl,rfl⟩)
  go_ret
  exact ⟨rfl,by go_grown⟩
theorem ivlhas_any (a b:Int) (ha:Rg a) (hb:Rg b) (w:World) :
  Calls Tryz.prog 127 #[.agg #[.float .f64 (ofKey (a)),.float .f64 (ofKey (b))]] w fun e w'=>e = .returned (.bool (decide (a≤0∧0≤b)))∧Below w.heap.size w w':=by
 by_cases h1:a≤0<;>by_cases h2:0≤b
 all_goals
  go_enter Tryz.func127,Tryz.ntmps127
  go_wp2_with fail
  go_ret
  exact ⟨ret_b (by (first|rfl|(refine (decide_eq_true ?_).symm;omega)|(refine (decide_eq_false ?_).symm;omega)|(refine decide_eq_decide.2 ?_;omega)|(rw [Bool.eq_iff_iff];simp only [Bool.and_eq_true,Bool.or_eq_true,Bool.not_eq_true,Bool.not_eq_eq_eq_not,Bool.not_true,Bool.not_false,decide_eq_true_eq,decide_eq_false_iff_not,Bool.false_eq_true,true_iff,false_iff]<;>omega))),by go_grown⟩
theorem ivlneg_any (a b:Int) (ha:Rg a) (hb:Rg b) (w:World) :
  Calls Tryz.prog 111 #[.agg #[.float .f64 (ofKey (a)),.float .f64 (ofKey (b))]] w fun e w'=>e = .returned (.agg #[.float .f64 (ofKey (-b)),.float .f64 (ofKey (-a))])∧Below w.heap.size w w':=by
 go_enter Tryz.func111,Tryz.ntmps111
 go_wp2_with fail
 go_returns
 exact ⟨rfl,by go_grown⟩
noncomputable def endK (o x y:Int) (up:Bool):Int :=
 if -PI<x∧x<PI ∧ -PI<y∧y<PI then roundK o x y up
 else if o=8 then (if x=0∨y=0 then 0 else infSign x y)
 else if o=6 then (if x=PI∨y=PI then PI else -PI)
 else if y=PI∨y = -PI then 0 else x
def EndOk (o x y:Int):Prop:=(o=6 ∧ ¬(x=PI∧y = -PI) ∧ ¬(x = -PI∧y=PI))∨o=8∨(o=9∧y≠0)
theorem infSign_rg (x y:Int):Rg (infSign x y):=by
 unfold infSign;split
 ·exact Rg_PI
 ·exact Rg_MI
theorem endK_rg (o x y:Int) (up:Bool) (hx:Rg x):Rg (endK o x y up):=by
 unfold endK
 split
 ·exact roundK_rg _ _ _ _
 ·split
  ·split
   ·exact Rg_zero
   ·exact infSign_rg _ _
  ·split
   ·split
    ·exact Rg_PI
    ·exact Rg_MI
   ·split
    ·exact Rg_zero
    ·exact hx
theorem infSign_self {x:Int} (h:x=PI∨x = -PI):infSign x PI=x:=by
 have hP:=PI_pos
 unfold infSign
 split<;>omega
set_option maxHeartbeats 1000000 in
theorem ivlend_any (o x y:Int) (up:Bool) (hx:Rg x) (hy:Rg y) (hok:EndOk o x y) (w:World) :
  Calls Tryz.prog 136 #[.int .i64 o,.float .f64 (ofKey (x)),.float .f64 (ofKey (y)),.bool up] w fun e w'=>e = .returned (.float .f64 (ofKey (endK o x y up)))∧Below w.heap.size w w':=by
 have hP:=PI_pos
 have q1:=hx.1;have q2:=hx.2;have q3:=hy.1;have q4:=hy.2
 have nN:=nan_NANW
 have wN:=wd_NANW
 have hRD:=fpround_any o (ofKey x) (ofKey y) up (ofKey_lt hx) (ofKey_lt hy)
 by_cases hf : -PI<x∧x<PI ∧ -PI<y∧y<PI
 ·have he:endK o x y up=roundK o x y up:=by unfold endK;rw [if_pos hf]
  have hr:roundW o (ofKey x) (ofKey y) up=ofKey (roundK o x y up):=by
   rw [round_yes up ?_,key_ofKey hx,key_ofKey hy]
   refine ⟨fin_ofKey hf.1 hf.2.1,.inr ⟨fin_ofKey hf.2.2.1 hf.2.2.2,?_⟩⟩
   rw [key_ofKey hy]
   unfold EndOk at hok
   omega
  rw [hr] at hRD
  have hg:=roundK_rg o x y up
  rw [he]
  generalize roundK o x y up=k at *
  have RD:=Lib.hid hRD
  clear hRD hr he hf hok q1 q2 q3 q4
  go_enter Tryz.func136,Tryz.ntmps136
  go_wp2_with (first|(go_at_call 44;refine (RD.out _).mono ?_;rintro e w1 ⟨rfl,hbw1⟩;skip)|(go_at_call 97;refine (isnan_no _ (not_nan_ofKey hg) _).mono ?_;rintro e w' ⟨rfl,rfl⟩))
  go_ret
  exact ⟨rfl,hbw1⟩
 ·have hr:roundW o (ofKey x) (ofKey y) up=NANW:=by
   refine round_no up ?_
   intro h
   unfold EndOk at hok
   have h1:=(nan_key_fin (not_nan_ofKey hx)).1 h.1
   rw [key_ofKey hx] at h1
   rcases h.2 with h2|h2
   ·omega
   ·have h3:=(nan_key_fin (not_nan_ofKey hy)).1 h2.1
    rw [key_ofKey hy] at h3
    omega
  rw [hr] at hRD
  have RD:=Lib.hid hRD
  clear hRD hr
  have IP:=Lib.hid (isinf0_any (ofKey y) (not_nan_ofKey hy) (ofKey_lt hy))
  rw [key_ofKey hy] at IP
  rcases hok with ⟨rfl,h1,h2⟩|rfl|⟨rfl,h1⟩
  ·have he:endK 6 x y up=if x=PI∨y=PI then PI else -PI:=by unfold endK;rw [if_neg hf,if_neg (by omega),if_pos rfl]
   have hs:=fun (w:World) (t:TypeId)=>run_float_arith (P := Tryz.prog) w .add t .f64 _ _ _ (add_infk hx hy (by omega) h1 h2)
   rw [he]
   clear he
   generalize (if x=PI∨y=PI then PI else -PI)=k at *
   clear hf h1 h2 q1 q2 q3 q4
   go_enter Tryz.func136,Tryz.ntmps136
   go_wp2_with (first|(go_at_call 44;refine (RD.out _).mono ?_;rintro e w1 ⟨rfl,hbw1⟩;skip)|(go_at_call 97;refine (isnan_yes _ nN _).mono ?_;rintro e w' ⟨rfl,rfl⟩))
   go_ret
   exact ⟨rfl,hbw1⟩
  ·have he:endK 8 x y up=if x=0∨y=0 then 0 else infSign x y:=by unfold endK;rw [if_neg hf,if_pos rfl]
   rw [he]
   clear he
   by_cases h0:x=0
   ·rw [if_pos (.inl h0)]
    have d1:decide (x=0)=true:=decide_eq_true h0
    clear hf h0 q1 q2 q3 q4
    go_enter Tryz.func136,Tryz.ntmps136
    go_wp2_with (first|(go_at_call 44;refine (RD.out _).mono ?_;rintro e w1 ⟨rfl,hbw1⟩;skip)|(go_at_call 97;refine (isnan_yes _ nN _).mono ?_;rintro e w' ⟨rfl,rfl⟩))
    go_ret
    exact ⟨rfl,hbw1⟩
   ·have d1:decide (x=0)=false:=decide_eq_false h0
    by_cases h1:y=0
    ·rw [if_pos (.inr h1)]
     have d2:decide (y=0)=true:=decide_eq_true h1
     clear hf h0 h1 q1 q2 q3 q4
     go_enter Tryz.func136,Tryz.ntmps136
     go_wp2_with (first|(go_at_call 44;refine (RD.out _).mono ?_;rintro e w1 ⟨rfl,hbw1⟩;skip)|(go_at_call 97;refine (isnan_yes _ nN _).mono ?_;rintro e w' ⟨rfl,rfl⟩))
     go_ret
     exact ⟨rfl,hbw1⟩
    ·rw [if_neg (by omega)]
     have d2:decide (y=0)=false:=decide_eq_false h1
     have hs:=fun (w:World) (t:TypeId)=>run_float_arith (P := Tryz.prog) w .mul t .f64 _ _ _ (mul_infk hx hy (by omega) h0 h1)
     clear hf h0 h1 q1 q2 q3 q4
     go_enter Tryz.func136,Tryz.ntmps136
     go_wp2_with (first|(go_at_call 44;refine (RD.out _).mono ?_;rintro e w1 ⟨rfl,hbw1⟩;skip)|(go_at_call 97;refine (isnan_yes _ nN _).mono ?_;rintro e w' ⟨rfl,rfl⟩))
     go_ret
     exact ⟨rfl,hbw1⟩
  ·have he:endK 9 x y up=if y=PI∨y = -PI then 0 else x:=by unfold endK;rw [if_neg hf,if_neg (by omega),if_neg (by omega)]
   rw [he]
   clear he
   have hb:(decide (y=PI)||decide (y = -PI))=decide (y=PI∨y = -PI):=by rw [Bool.decide_or]
   by_cases h2:y=PI∨y = -PI
   ·rw [if_pos h2]
    have IQ:=Lib.hid IP.out
    rw [hb,decide_eq_true h2] at IQ
    clear hf h1 h2 hb IP q1 q2 q3 q4
    go_enter Tryz.func136,Tryz.ntmps136
    go_wp2_with (first|(go_at_call 44;refine (RD.out _).mono ?_;rintro e w1 ⟨rfl,hbw1⟩;skip)|(go_at_call 97;refine (isnan_yes _ nN _).mono ?_;rintro e w' ⟨rfl,rfl⟩)|(go_at_call 41;refine (IQ.out _).mono ?_;rintro e w' ⟨rfl,rfl⟩))
    go_ret
    exact ⟨rfl,hbw1⟩
   ·rw [if_neg h2]
    have IQ:=Lib.hid IP.out
    rw [hb,decide_eq_false h2] at IQ
    have hs:=fun (w:World) (t:TypeId)=>run_float_arith (P := Tryz.prog) w .mul t .f64 _ _ _ (mul_infk hx Rg_PI (by omega) (by omega) (by omega))
    rw [infSign_self (by omega)] at hs
    clear hf h1 h2 hb IP q1 q2 q3 q4
    go_enter Tryz.func136,Tryz.ntmps136
    go_wp2_with (first|(go_at_call 44;refine (RD.out _).mono ?_;rintro e w1 ⟨rfl,hbw1⟩;skip)|(go_at_call 97;refine (isnan_yes _ nN _).mono ?_;rintro e w' ⟨rfl,rfl⟩)|(go_at_call 41;refine (IQ.out _).mono ?_;rintro e w' ⟨rfl,rfl⟩)|(go_at_call 90;refine (ivlinf_any _).mono ?_;rintro e w' ⟨rfl,rfl⟩))
    go_ret
    exact ⟨rfl,hbw1⟩
end Go.Proofs.YteephgpefhodnaaGreat
namespace Go.Proofs.YteephgpefhodnaaGreat
open Go.RowKit Go.Sort Go.Fl
set_option linter.unusedSimpArgs false
set_option linter.unusedVariables false
theorem ivladd_any (a b c d:Int) (ha:Rg a) (hb:Rg b) (hc:Rg c) (hd:Rg d) (h1:EndOk 6 a c) (h2:EndOk 6 b d) (w:World) :
  Calls Tryz.prog 119 #[.agg #[.float .f64 (ofKey (a)),.float .f64 (ofKey (b))],.agg #[.float .f64 (ofKey (c)),.float .f64 (ofKey (d))]] w fun e w'=>e = .returned (.agg #[.float .f64 (ofKey (endK 6 a c false)),.float .f64 (ofKey (endK 6 b d true))])∧Below w.heap.size w w':=by
 have EA:=Lib.hid (fun w=>ivlend_any 6 a c false ha hc h1 w)
 have EB:=Lib.hid (fun w=>ivlend_any 6 b d true hb hd h2 w)
 clear h1 h2
 go_enter Tryz.func119,Tryz.ntmps119
 go_wp2_with fail
 refine Hold.i222.go ?_;intro wl H;have F:=H.f;dsimp only [Fac] at F
 have k:=H.r;dsimp only [Reg] at k
 refine wp_region_below_tail 11 (by kernel_rfl) (by kernel_rfl) ?_
 simp only [List.take_succ_cons,List.take_zero,List.drop_succ_cons,List.drop_zero]
 repeat (go_big_quiet_step ((first|(with_reducible exact Calls.regrown_of (EA.out _))|(with_reducible exact Calls.regrown_of (EB.out _)))))
 refine wpQuiet_nil (fun w1 hb => ?_);clear k
 replace H:=H.below hb;clear hb;replace F:=H.f;dsimp only [Fac] at F
 go_wp2_with fail
 refine ((H.set 4 _).set 5 _).gob ?_;clear H F;intro wz H;dsimp only [upd] at H;have F:=H.f;dsimp only [Fac] at F
 refine bodyPost_ret (by simp [results,Tryz.results119,go_sem,F]) rfl ⟨rfl,?_⟩;exact H.B
theorem index_0 (x y:Nat) (w:World):(Instr.index 119 (.agg #[.float .f64 x,.float .f64 y]) (.int .i64 0)).run Tryz.prog w = .ok (.float .f64 x) w:=by
 kernel_rfl
theorem index_1 (x y:Nat) (w:World):(Instr.index 119 (.agg #[.float .f64 x,.float .f64 y]) (.int .i64 1)).run Tryz.prog w = .ok (.float .f64 y) w:=by
 kernel_rfl
noncomputable def loN (o a b c d:Int):Nat→Int
 | 0=>PI
 | n+1=>min (loN o a b c d n) (endK o (if n<2 then a else b) (if n%2=0 then c else d) false)
noncomputable def hiN (o a b c d:Int):Nat→Int
 | 0 => -PI
 | n+1=>max (hiN o a b c d n) (endK o (if n<2 then a else b) (if n%2=0 then c else d) true)
theorem loN_rg (o a b c d:Int) (ha:Rg a) (hb:Rg b) (n:Nat):Rg (loN o a b c d n):=by
 induction n with
 | zero=>exact Rg_PI
 | succ n ih=>exact rg_min ih (endK_rg _ _ _ _ (by split<;>assumption))
theorem hiN_rg (o a b c d:Int) (ha:Rg a) (hb:Rg b) (n:Nat):Rg (hiN o a b c d n):=by
 induction n with
 | zero=>exact Rg_MI
 | succ n ih=>exact rg_max ih (endK_rg _ _ _ _ (by split<;>assumption))
set_option maxHeartbeats 4000000 in
theorem ends_any (o a b c d:Int) (ha:Rg a) (hb:Rg b) (hc:Rg c) (hd:Rg d) (hok : ∀ x y,(x=a∨x=b)→(y=c∨y=d)→EndOk o x y) (w:World) :
  Calls Tryz.prog 121 #[.int .i64 o,.agg #[.float .f64 (ofKey (a)),.float .f64 (ofKey (b))],.agg #[.float .f64 (ofKey (c)),.float .f64 (ofKey (d))]] w fun e w'=>e = .returned (.agg #[.float .f64 (ofKey (loN o a b c d 4)),.float .f64 (ofKey (hiN o a b c d 4))])∧Below w.heap.size w w':=by
 have ce1:=fun w=>ivlend_any o a c false ha hc (hok a c (by omega) (by omega)) w
 have re1:=endK_rg o a c false ha
 have rL1:=loN_rg o a b c d ha hb 1
 have mL1:min (PI) (endK o a c false)=loN o a b c d 1:=rfl
 have cE1:=fun w=>ivlend_any o a c true ha hc (hok a c (by omega) (by omega)) w
 have rE1:=endK_rg o a c true ha
 have rH1:=hiN_rg o a b c d ha hb 1
 have mH1:max (-PI) (endK o a c true)=hiN o a b c d 1:=rfl
 have ce2:=fun w=>ivlend_any o a d false ha hd (hok a d (by omega) (by omega)) w
 have re2:=endK_rg o a d false ha
 have rL2:=loN_rg o a b c d ha hb 2
 have mL2:min (loN o a b c d 1) (endK o a d false)=loN o a b c d 2:=rfl
 have cE2:=fun w=>ivlend_any o a d true ha hd (hok a d (by omega) (by omega)) w
 have rE2:=endK_rg o a d true ha
 have rH2:=hiN_rg o a b c d ha hb 2
 have mH2:max (hiN o a b c d 1) (endK o a d true)=hiN o a b c d 2:=rfl
 have ce3:=fun w=>ivlend_any o b c false hb hc (hok b c (by omega) (by omega)) w
 have re3:=endK_rg o b c false hb
 have rL3:=loN_rg o a b c d ha hb 3
 have mL3:min (loN o a b c d 2) (endK o b c false)=loN o a b c d 3:=rfl
 have cE3:=fun w=>ivlend_any o b c true hb hc (hok b c (by omega) (by omega)) w
 have rE3:=endK_rg o b c true hb
 have rH3:=hiN_rg o a b c d ha hb 3
 have mH3:max (hiN o a b c d 2) (endK o b c true)=hiN o a b c d 3:=rfl
 have ce4:=fun w=>ivlend_any o b d false hb hd (hok b d (by omega) (by omega)) w
 have re4:=endK_rg o b d false hb
 have rL4:=loN_rg o a b c d ha hb 4
 have mL4:min (loN o a b c d 3) (endK o b d false)=loN o a b c d 4:=rfl
 have cE4:=fun w=>ivlend_any o b d true hb hd (hok b d (by omega) (by omega)) w
 have rE4:=endK_rg o b d true hb
 have rH4:=hiN_rg o a b c d ha hb 4
 have mH4:max (hiN o a b c d 3) (endK o b d true)=hiN o a b c d 4:=rfl
 generalize loN o a b c d 1=L1 at *
 generalize endK o a c false=e1 at *
 generalize hiN o a b c d 1=H1 at *
 generalize endK o a c true=E1 at *
 generalize loN o a b c d 2=L2 at *
 generalize endK o a d false=e2 at *
 generalize hiN o a b c d 2=H2 at *
 generalize endK o a d true=E2 at *
 generalize loN o a b c d 3=L3 at *
 generalize endK o b c false=e3 at *
 generalize hiN o a b c d 3=H3 at *
 generalize endK o b c true=E3 at *
 generalize loN o a b c d 4=L4 at *
 generalize endK o b d false=e4 at *
 generalize hiN o a b c d 4=H4 at *
 generalize endK o b d true=E4 at *
 have ix0:=index_0
 have ix1:=index_1
 have Ce1:=Lib.hid ce1
 clear ce1
 have CE1:=Lib.hid cE1
 clear cE1
 have Ce2:=Lib.hid ce2
 clear ce2
 have CE2:=Lib.hid cE2
 clear cE2
 have Ce3:=Lib.hid ce3
 clear ce3
 have CE3:=Lib.hid cE3
 clear cE3
 have Ce4:=Lib.hid ce4
 clear ce4
 have CE4:=Lib.hid cE4
 clear cE4
 clear hok
 go_enter Tryz.func121,Tryz.ntmps121
 go_wp2_with fail
 refine (ivlempty_any _).mono ?_;rintro e w1 ⟨rfl,hb⟩
 have H:=Hold.i222.below hb;clear hb;have F:=H.f;dsimp only [Fac] at F
 go_wp2_with fail
 have n1:=H.lt;dsimp only [Lts] at n1
 first|refine (H.new2 _ _ _).goc ?_|refine (H.new2 _ _ _).gol ?_|refine (H.new2 _ _ _).go ?_|refine (H.new2 _ _ _).gob ?_
 clear H F;intro w2 H;dsimp only [add] at H;have F:=H.f;dsimp only [Fac] at F
 refine wp_rounds 3 ?_
 refine (show Code.wp _ _ (Exit.then (Rounds _ _ _ 2) _) _ _ from ?_)
 generalize hRo:Rounds _ _ _ 2=Ro
 have HRo:=Lib.hid hRo
 clear hRo
 go_wp2_with fail
 refine wp_rounds 3 ?_
 refine (show Code.wp _ _ (Exit.then (Rounds _ _ _ 2) _) _ _ from ?_)
 generalize hRi:Rounds _ _ _ 2=Ri
 have HRi:=Lib.hid hRi
 clear hRi
 go_wp2_with fail
 have k:=H.r;dsimp only [Reg] at k
 refine wp_region_below_tail 8 (by kernel_rfl) (by kernel_rfl) ?_
 simp only [List.take_succ_cons,List.take_zero,List.drop_succ_cons,List.drop_zero]
 repeat (go_big_quiet_step ((with_reducible exact Calls.regrown_of (Ce1.out _))))
 refine wpQuiet_nil (fun w3 hb => ?_);clear k
 replace H:=H.below hb;clear hb;replace F:=H.f;dsimp only [Fac] at F
 iterate 3 go_step
 first|refine (H.set 6 _).goc ?_|refine (H.set 6 _).gol ?_|refine (H.set 6 _).go ?_|refine (H.set 6 _).gob ?_
 clear H F;intro w4 H;dsimp only [upd] at H;have F:=H.f;dsimp only [Fac] at F
 clear mL1 re1 Ce1
 go_wp2_with fail
 have k:=H.r;dsimp only [Reg] at k
 refine wp_region_below_tail 8 (by kernel_rfl) (by kernel_rfl) ?_
 simp only [List.take_succ_cons,List.take_zero,List.drop_succ_cons,List.drop_zero]
 repeat (go_big_quiet_step ((with_reducible exact Calls.regrown_of (CE1.out _))))
 refine wpQuiet_nil (fun w5 hb => ?_);clear k
 replace H:=H.below hb;clear hb;replace F:=H.f;dsimp only [Fac] at F
 iterate 3 go_step
 first|refine (H.set 7 _).goc ?_|refine (H.set 7 _).gol ?_|refine (H.set 7 _).go ?_|refine (H.set 7 _).gob ?_
 clear H F;intro w6 H;dsimp only [upd] at H;have F:=H.f;dsimp only [Fac] at F
 clear mH1 rE1 CE1
 go_wp2_with fail
 rw [←HRi.out]
 clear HRi
 refine (show Code.wp _ _ (Exit.then (Rounds _ _ _ 1) _) _ _ from ?_)
 generalize hRi:Rounds _ _ _ 1=Ri
 have HRi:=Lib.hid hRi
 clear hRi
 go_wp2_with fail
 have k:=H.r;dsimp only [Reg] at k
 refine wp_region_below_tail 8 (by kernel_rfl) (by kernel_rfl) ?_
 simp only [List.take_succ_cons,List.take_zero,List.drop_succ_cons,List.drop_zero]
 repeat (go_big_quiet_step ((with_reducible exact Calls.regrown_of (Ce2.out _))))
 refine wpQuiet_nil (fun w7 hb => ?_);clear k
 replace H:=H.below hb;clear hb;replace F:=H.f;dsimp only [Fac] at F
 iterate 3 go_step
 first|refine (H.set 6 _).goc ?_|refine (H.set 6 _).gol ?_|refine (H.set 6 _).go ?_|refine (H.set 6 _).gob ?_
 clear H F;intro w8 H;dsimp only [upd] at H;have F:=H.f;dsimp only [Fac] at F
 clear mL2 re2 Ce2
 go_wp2_with fail
 have k:=H.r;dsimp only [Reg] at k
 refine wp_region_below_tail 8 (by kernel_rfl) (by kernel_rfl) ?_
 simp only [List.take_succ_cons,List.take_zero,List.drop_succ_cons,List.drop_zero]
 repeat (go_big_quiet_step ((with_reducible exact Calls.regrown_of (CE2.out _))))
 refine wpQuiet_nil (fun w9 hb => ?_);clear k
 replace H:=H.below hb;clear hb;replace F:=H.f;dsimp only [Fac] at F
 iterate 3 go_step
 first|refine (H.set 7 _).goc ?_|refine (H.set 7 _).gol ?_|refine (H.set 7 _).go ?_|refine (H.set 7 _).gob ?_
 clear H F;intro w10 H;dsimp only [upd] at H;have F:=H.f;dsimp only [Fac] at F
 clear mH2 rE2 CE2
 go_wp2_with fail
 rw [←HRi.out]
 clear HRi
 refine (show Code.wp _ _ (Exit.then (Rounds _ _ _ 0) _) _ _ from ?_)
 generalize hRi:Rounds _ _ _ 0=Ri
 have HRi:=Lib.hid hRi
 clear hRi
 go_wp2_with fail
 rw [←HRo.out]
 clear HRo
 refine (show Code.wp _ _ (Exit.then (Rounds _ _ _ 1) _) _ _ from ?_)
 generalize hRo:Rounds _ _ _ 1=Ro
 have HRo:=Lib.hid hRo
 clear hRo
 go_wp2_with fail
 refine wp_rounds 3 ?_
 refine (show Code.wp _ _ (Exit.then (Rounds _ _ _ 2) _) _ _ from ?_)
 generalize hRi:Rounds _ _ _ 2=Ri
 have HRi:=Lib.hid hRi
 clear hRi
 go_wp2_with fail
 have k:=H.r;dsimp only [Reg] at k
 refine wp_region_below_tail 8 (by kernel_rfl) (by kernel_rfl) ?_
 simp only [List.take_succ_cons,List.take_zero,List.drop_succ_cons,List.drop_zero]
 repeat (go_big_quiet_step ((with_reducible exact Calls.regrown_of (Ce3.out _))))
 refine wpQuiet_nil (fun w11 hb => ?_);clear k
 replace H:=H.below hb;clear hb;replace F:=H.f;dsimp only [Fac] at F
 iterate 3 go_step
 first|refine (H.set 6 _).goc ?_|refine (H.set 6 _).gol ?_|refine (H.set 6 _).go ?_|refine (H.set 6 _).gob ?_
 clear H F;intro w12 H;dsimp only [upd] at H;have F:=H.f;dsimp only [Fac] at F
 clear mL3 re3 Ce3
 go_wp2_with fail
 have k:=H.r;dsimp only [Reg] at k
 refine wp_region_below_tail 8 (by kernel_rfl) (by kernel_rfl) ?_
 simp only [List.take_succ_cons,List.take_zero,List.drop_succ_cons,List.drop_zero]
 repeat (go_big_quiet_step ((with_reducible exact Calls.regrown_of (CE3.out _))))
 refine wpQuiet_nil (fun w13 hb => ?_);clear k
 replace H:=H.below hb;clear hb;replace F:=H.f;dsimp only [Fac] at F
 iterate 3 go_step
 first|refine (H.set 7 _).goc ?_|refine (H.set 7 _).gol ?_|refine (H.set 7 _).go ?_|refine (H.set 7 _).gob ?_
 clear H F;intro w14 H;dsimp only [upd] at H;have F:=H.f;dsimp only [Fac] at F
 clear mH3 rE3 CE3
 go_wp2_with fail
 rw [←HRi.out]
 clear HRi
 refine (show Code.wp _ _ (Exit.then (Rounds _ _ _ 1) _) _ _ from ?_)
 generalize hRi:Rounds _ _ _ 1=Ri
 have HRi:=Lib.hid hRi
 clear hRi
 go_wp2_with fail
 have k:=H.r;dsimp only [Reg] at k
 refine wp_region_below_tail 8 (by kernel_rfl) (by kernel_rfl) ?_
 simp only [List.take_succ_cons,List.take_zero,List.drop_succ_cons,List.drop_zero]
 repeat (go_big_quiet_step ((with_reducible exact Calls.regrown_of (Ce4.out _))))
 refine wpQuiet_nil (fun w15 hb => ?_);clear k
 replace H:=H.below hb;clear hb;replace F:=H.f;dsimp only [Fac] at F
 iterate 3 go_step
 first|refine (H.set 6 _).goc ?_|refine (H.set 6 _).gol ?_|refine (H.set 6 _).go ?_|refine (H.set 6 _).gob ?_
 clear H F;intro w16 H;dsimp only [upd] at H;have F:=H.f;dsimp only [Fac] at F
 clear mL4 re4 Ce4
 go_wp2_with fail
 have k:=H.r;dsimp only [Reg] at k
 refine wp_region_below_tail 8 (by kernel_rfl) (by kernel_rfl) ?_
 simp only [List.take_succ_cons,List.take_zero,List.drop_succ_cons,List.drop_zero]
 repeat (go_big_quiet_step ((with_reducible exact Calls.regrown_of (CE4.out _))))
 refine wpQuiet_nil (fun w17 hb => ?_);clear k
 replace H:=H.below hb;clear hb;replace F:=H.f;dsimp only [Fac] at F
 iterate 3 go_step
 first|refine (H.set 7 _).goc ?_|refine (H.set 7 _).gol ?_|refine (H.set 7 _).go ?_|refine (H.set 7 _).gob ?_
 clear H F;intro w18 H;dsimp only [upd] at H;have F:=H.f;dsimp only [Fac] at F
 clear mH4 rE4 CE4
 go_wp2_with fail
 rw [←HRi.out]
 clear HRi
 refine (show Code.wp _ _ (Exit.then (Rounds _ _ _ 0) _) _ _ from ?_)
 generalize hRi:Rounds _ _ _ 0=Ri
 have HRi:=Lib.hid hRi
 clear hRi
 go_wp2_with fail
 rw [←HRo.out]
 clear HRo
 refine (show Code.wp _ _ (Exit.then (Rounds _ _ _ 0) _) _ _ from ?_)
 generalize hRo:Rounds _ _ _ 0=Ro
 have HRo:=Lib.hid hRo
 clear hRo
 iterate 25 go_step
 first|refine ((H.set 4 _).set 5 _).goc ?_|refine ((H.set 4 _).set 5 _).gol ?_|refine ((H.set 4 _).set 5 _).go ?_|refine ((H.set 4 _).set 5 _).gob ?_
 clear H F;intro wz H;dsimp only [upd] at H;have F:=H.f;dsimp only [Fac] at F
 refine bodyPost_ret (v := .agg #[.float .f64 (ofKey (L4)),.float .f64 (ofKey (H4))]) (by simp [results,Tryz.results121,go_sem,F]) rfl ⟨rfl,?_⟩
 exact H.B
end Go.Proofs.YteephgpefhodnaaGreat
namespace Go.Proofs.YteephgpefhodnaaGreat
open Go.RowKit Go.Sort Go.Fl
set_option linter.unusedSimpArgs false
set_option linter.unusedVariables false
def absLo (a b:Int):Int:=if 0≤a then a else if b≤0 then -b else 0
def absHi (a b:Int):Int:=if 0≤a then b else if b≤0 then -a else max b (-a)
theorem absLo_rg {a b:Int} (ha:Rg a) (hb:Rg b):Rg (absLo a b):=by
 unfold absLo;split
 ·exact ha
 ·split
  ·exact Rg_neg hb
  ·exact Rg_zero
theorem absHi_rg {a b:Int} (ha:Rg a) (hb:Rg b):Rg (absHi a b):=by
 unfold absHi;split
 ·exact hb
 ·split
  ·exact Rg_neg ha
  ·exact rg_max hb (Rg_neg ha)
theorem ivlabs_any (a b:Int) (ha:Rg a) (hb:Rg b) (w:World) :
  Calls Tryz.prog 112 #[.agg #[.float .f64 (ofKey (a)),.float .f64 (ofKey (b))]] w fun e w'=>e = .returned (.agg #[.float .f64 (ofKey (absLo a b)),.float .f64 (ofKey (absHi a b))])∧Below w.heap.size w w':=by
 by_cases h1:0≤a
 ·rw [show absLo a b=a by unfold absLo;rw [if_pos h1],show absHi a b=b by unfold absHi;rw [if_pos h1]]
  go_enter Tryz.func112,Tryz.ntmps112
  go_wp2_with fail
  go_returns
  exact ⟨rfl,by go_grown⟩
 ·by_cases h2:b≤0
  ·rw [show absLo a b = -b by unfold absLo;rw [if_neg h1,if_pos h2],show absHi a b = -a by unfold absHi;rw [if_neg h1,if_pos h2]]
   go_enter Tryz.func112,Tryz.ntmps112
   go_wp2_with fail
   refine (ivlneg_any _ _ ha hb _).mono ?_;rintro e w1 ⟨rfl,hb⟩
   have H:=Hold.i22.below hb;clear hb;have F:=H.f;dsimp only [Fac] at F
   go_wp2_with fail
   have n1:=H.lt;dsimp only [Lts] at n1
   first|refine (((H.set 2 _).set 3 _).new2 _ _ _).goc ?_|refine (((H.set 2 _).set 3 _).new2 _ _ _).gol ?_|refine (((H.set 2 _).set 3 _).new2 _ _ _).go ?_|refine (((H.set 2 _).set 3 _).new2 _ _ _).gob ?_
   clear H F;intro wz H;simp only [upd,add,stc,World.size_setCell,World.size_alloc] at H;have F:=H.f;dsimp only [Fac] at F
   refine bodyPost_ret (v := .agg #[.float .f64 (ofKey (-b)),.float .f64 (ofKey (-a))]) (by simp [results,Tryz.results112,go_sem,F]) rfl ⟨rfl,?_⟩
   exact H.B
  ·have rm:=rg_max hb (Rg_neg ha)
   rw [show absLo a b=0 by unfold absLo;rw [if_neg h1,if_neg h2],show absHi a b=max b (-a) by unfold absHi;rw [if_neg h1,if_neg h2]]
   go_enter Tryz.func112,Tryz.ntmps112
   go_wp2_with fail
   refine (ivlneg_any _ _ ha hb _).mono ?_;rintro e w1 ⟨rfl,hb⟩
   have H:=Hold.i22.below hb;clear hb;have F:=H.f;dsimp only [Fac] at F
   go_wp2_with fail
   have n1:=H.lt;dsimp only [Lts] at n1
   first|refine (((H.set 2 _).set 3 _).new2 _ _ _).goc ?_|refine (((H.set 2 _).set 3 _).new2 _ _ _).gol ?_|refine (((H.set 2 _).set 3 _).new2 _ _ _).go ?_|refine (((H.set 2 _).set 3 _).new2 _ _ _).gob ?_
   clear H F;intro wz H;simp only [upd,add,stc,World.size_setCell,World.size_alloc] at H;have F:=H.f;dsimp only [Fac] at F
   refine bodyPost_ret (v := .agg #[.float .f64 0,.float .f64 (ofKey (max b (-a)))]) (by simp [results,Tryz.results112,go_sem,F]) rfl ⟨rfl,?_⟩
   exact H.B
theorem ivlsqr_any (a b:Int) (ha:Rg a) (hb:Rg b) (w:World) :
  Calls Tryz.prog 113 #[.agg #[.float .f64 (ofKey (a)),.float .f64 (ofKey (b))]] w fun e w'=>e = .returned (.agg #[.float .f64 (ofKey (endK 8 (absLo a b) (absLo a b) false)),.float .f64 (ofKey (endK 8 (absHi a b) (absHi a b) true))])∧Below w.heap.size w w':=by
 have rl:=absLo_rg ha hb
 have rh:=absHi_rg ha hb
 have EA:=Lib.hid (fun w=>ivlend_any 8 (absLo a b) (absLo a b) false rl rl (.inr (.inl rfl)) w)
 have EB:=Lib.hid (fun w=>ivlend_any 8 (absHi a b) (absHi a b) true rh rh (.inr (.inl rfl)) w)
 have AB:=Lib.hid (fun w=>ivlabs_any a b ha hb w)
 generalize absLo a b=l at *
 generalize absHi a b=h at *
 generalize endK 8 l l false=x at *
 generalize endK 8 h h true=y at *
 go_enter Tryz.func113,Tryz.ntmps113
 go_wp2_with fail
 refine (AB.out _).mono ?_;rintro e w1 ⟨rfl,hb⟩
 have H:=Hold.i22.below hb;clear hb;have F:=H.f;dsimp only [Fac] at F
 go_wp2_with fail
 refine ((H.set 0 _).set 1 _).go ?_;clear H F;intro w2 H;dsimp only [upd] at H;have F:=H.f;dsimp only [Fac] at F
 have k:=H.r;dsimp only [Reg] at k
 refine wp_region_below_tail 11 (by kernel_rfl) (by kernel_rfl) ?_
 simp only [List.take_succ_cons,List.take_zero,List.drop_succ_cons,List.drop_zero]
 repeat (go_big_quiet_step ((first|(with_reducible exact Calls.regrown_of (EA.out _))|(with_reducible exact Calls.regrown_of (EB.out _)))))
 refine wpQuiet_nil (fun w3 hb => ?_);clear k
 replace H:=H.below hb;clear hb;replace F:=H.f;dsimp only [Fac] at F
 go_wp2_with fail
 refine ((H.set 2 _).set 3 _).gob ?_;clear H F;intro wz H;dsimp only [upd] at H;have F:=H.f;dsimp only [Fac] at F
 refine bodyPost_ret (by simp [results,Tryz.results113,go_sem,F]) rfl ⟨rfl,?_⟩;exact H.B
theorem find3_any (a b c d:Int) (ha:Rg a) (hb:Rg b) (hc:Rg c) (hd:Rg d) (h1:EndOk 6 a (-d)) (h2:EndOk 6 b (-c)) (w:World) :
  Calls Tryz.prog 118 #[.agg #[.float .f64 (ofKey (a)),.float .f64 (ofKey (b))],.agg #[.float .f64 (ofKey (c)),.float .f64 (ofKey (d))]] w fun e w'=>e = .returned (.agg #[.float .f64 (ofKey (endK 6 a (-d) false)),.float .f64 (ofKey (endK 6 b (-c) true))])∧Below w.heap.size w w':=by
 have NE:=Lib.hid (fun w=>ivlneg_any c d hc hd w)
 have AD:=Lib.hid (fun w=>ivladd_any a b (-d) (-c) ha hb (Rg_neg hd) (Rg_neg hc) h1 h2 w)
 generalize endK 6 a (-d) false=x at *
 generalize endK 6 b (-c) true=y at *
 clear h1 h2
 go_enter Tryz.func118,Tryz.ntmps118
 go_wp2_with fail
 refine Hold.i222.go ?_;intro wl H;have F:=H.f;dsimp only [Fac] at F
 have k:=H.r;dsimp only [Reg] at k
 refine wp_region_below_tail 4 (by kernel_rfl) (by kernel_rfl) ?_
 simp only [List.take_succ_cons,List.take_zero,List.drop_succ_cons,List.drop_zero]
 repeat (go_big_quiet_step ((first|(with_reducible exact Calls.regrown_of (NE.out _))|(with_reducible exact Calls.regrown_of (AD.out _)))))
 refine wpQuiet_nil (fun w1 hb => ?_);clear k
 replace H:=H.below hb;clear hb;replace F:=H.f;dsimp only [Fac] at F
 go_wp2_with fail
 refine ((H.set 4 _).set 5 _).gob ?_;clear H F;intro wz H;dsimp only [upd] at H;have F:=H.f;dsimp only [Fac] at F
 refine bodyPost_ret (by simp [results,Tryz.results118,go_sem,F]) rfl ⟨rfl,?_⟩;exact H.B
theorem find4_any (a b c d:Int) (ha:Rg a) (hb:Rg b) (hc:Rg c) (hd:Rg d) (w:World) :
  Calls Tryz.prog 120 #[.agg #[.float .f64 (ofKey (a)),.float .f64 (ofKey (b))],.agg #[.float .f64 (ofKey (c)),.float .f64 (ofKey (d))]] w fun e w'=>e = .returned (.agg #[.float .f64 (ofKey (loN 8 a b c d 4)),.float .f64 (ofKey (hiN 8 a b c d 4))])∧Below w.heap.size w w':=by
 have EN:=Lib.hid (fun w=>ends_any 8 a b c d ha hb hc hd (fun _ _ _ _ => .inr (.inl rfl)) w)
 generalize loN 8 a b c d 4=x at *
 generalize hiN 8 a b c d 4=y at *
 go_enter Tryz.func120,Tryz.ntmps120
 go_wp2_with fail
 refine (EN.out _).mono ?_;rintro e w1 ⟨rfl,hb⟩
 have H:=Hold.i222.below hb;clear hb;have F:=H.f;dsimp only [Fac] at F
 go_wp2_with fail
 refine ((H.set 4 _).set 5 _).gob ?_;clear H F;intro wz H;dsimp only [upd] at H;have F:=H.f;dsimp only [Fac] at F
 refine bodyPost_ret (by simp [results,Tryz.results120,go_sem,F]) rfl ⟨rfl,?_⟩;exact H.B
theorem find5_any (a b c d:Int) (ha:Rg a) (hb:Rg b) (hc:Rg c) (hd:Rg d) (w:World) :
  Calls Tryz.prog 122 #[.agg #[.float .f64 (ofKey (a)),.float .f64 (ofKey (b))],.agg #[.float .f64 (ofKey (c)),.float .f64 (ofKey (d))]] w fun e w'=>e = .returned (.agg #[.float .f64 (ofKey (min a c)),.float .f64 (ofKey (min b d))])∧Below w.heap.size w w':=by
 skip
 go_enter Tryz.func122,Tryz.ntmps122
 go_wp2_with fail
 go_returns
 exact ⟨rfl,by go_grown⟩
theorem find6_any (a b c d:Int) (ha:Rg a) (hb:Rg b) (hc:Rg c) (hd:Rg d) (w:World) :
  Calls Tryz.prog 123 #[.agg #[.float .f64 (ofKey (a)),.float .f64 (ofKey (b))],.agg #[.float .f64 (ofKey (c)),.float .f64 (ofKey (d))]] w fun e w'=>e = .returned (.agg #[.float .f64 (ofKey (max a c)),.float .f64 (ofKey (max b d))])∧Below w.heap.size w w':=by
 skip
 go_enter Tryz.func123,Tryz.ntmps123
 go_wp2_with fail
 go_returns
 exact ⟨rfl,by go_grown⟩
theorem ivlsqrt_any (a b:Int) (ha:Rg a) (hb:Rg b) (hl:a<PI) (w:World) :
  Calls Tryz.prog 114 #[.agg #[.float .f64 (ofKey (a)),.float .f64 (ofKey (b))]] w fun e w'=>e = .returned (.agg #[.float .f64 (ofKey (if b<0 then PI else sqrtK (max a 0) false)),.float .f64 (ofKey (if b<0 then -PI else if b<PI then sqrtK b true else PI))])∧Below w.heap.size w w':=by
 have hP:=PI_pos
 by_cases h1:b<0
 ·rw [if_pos h1,if_pos h1]
  go_enter Tryz.func114,Tryz.ntmps114
  go_wp2_with fail
  refine (ivlempty_any _).mono ?_;rintro e w1 ⟨rfl,hb⟩
  have H:=Hold.i22.below hb;clear hb;have F:=H.f;dsimp only [Fac] at F
  go_wp2_with fail
  refine ((H.set 2 _).set 3 _).gob ?_;clear H F;intro wz H;dsimp only [upd] at H;have F:=H.f;dsimp only [Fac] at F
  refine bodyPost_ret (by simp [results,Tryz.results114,go_sem,F]) rfl ⟨rfl,?_⟩;exact H.B
 ·rw [if_neg h1,if_neg h1]
  have rm:Rg (max a 0):=rg_max ha Rg_zero
  have b1:=ha.1
  have SA:=Lib.hid (fun w=>fpsqrt_any (ofKey (max a 0)) false (fin_ofKey (by omega) (by omega)) (ofKey_lt rm) (by rw [key_ofKey rm];omega) w)
  rw [key_ofKey rm] at SA
  have rs:Rg (sqrtK (max a 0) false):=rnd_rg _ _
  generalize sqrtK (max a 0) false=x at *
  have hm:(Builtin.max_=Builtin.max_):=rfl
  have q2:=hb.2
  by_cases h2:b<PI
  ·rw [if_pos h2]
   have FB:=Lib.hid (fun w=>finite_yes (ofKey b) (ofKey_lt hb) (fin_ofKey (by omega) h2) w)
   have SB:=Lib.hid (fun w=>fpsqrt_any (ofKey b) true (fin_ofKey (by omega) h2) (ofKey_lt hb) (by rw [key_ofKey hb];omega) w)
   rw [key_ofKey hb] at SB
   have rt:Rg (sqrtK b true):=rnd_rg _ _
   generalize sqrtK b true=y at *
   have mx : ∀ (w:World) (ts:Array TypeId) (t:TypeId),(Builtin.max_ ts t #[.float .f64 (ofKey a),.float .f64 0]).run Tryz.prog w = .ok (.float .f64 (ofKey (max a 0))) w:=fun w ts t=>run_max_k ha Rg_zero
   clear h2 q2 b1 hm hl
   go_enter Tryz.func114,Tryz.ntmps114
   go_wp2_with (first|(go_at_call 79;(first|(with_reducible refine (SA.out _).mono ?_)|(with_reducible refine (SB.out _).mono ?_));rintro e w' ⟨rfl,rfl⟩)|(go_at_call 90;refine (ivlinf_any _).mono ?_;rintro e w' ⟨rfl,rfl⟩)|(go_at_call 75;refine (FB.out _).mono ?_;rintro e w' ⟨rfl,rfl⟩))
   go_returns
   exact ⟨rfl,by go_grown⟩
  ·rw [if_neg h2]
   obtain rfl:b=PI:=by omega
   have FB:=Lib.hid (fun w=>finite_no (ofKey PI) (ofKey_lt hb) (by decide) w)
   have mx : ∀ (w:World) (ts:Array TypeId) (t:TypeId),(Builtin.max_ ts t #[.float .f64 (ofKey a),.float .f64 0]).run Tryz.prog w = .ok (.float .f64 (ofKey (max a 0))) w:=fun w ts t=>run_max_k ha Rg_zero
   clear h2 q2 b1 hm hl
   go_enter Tryz.func114,Tryz.ntmps114
   go_wp2_with (first|(go_at_call 79;(with_reducible refine (SA.out _).mono ?_);rintro e w' ⟨rfl,rfl⟩)|(go_at_call 90;refine (ivlinf_any _).mono ?_;rintro e w' ⟨rfl,rfl⟩)|(go_at_call 75;refine (FB.out _).mono ?_;rintro e w' ⟨rfl,rfl⟩))
   go_returns
   exact ⟨rfl,by go_grown⟩
end Go.Proofs.YteephgpefhodnaaGreat
