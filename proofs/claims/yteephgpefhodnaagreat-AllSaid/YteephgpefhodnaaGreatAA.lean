/- Contracts of the smallest functions: numbers out of bits, infinities, empty intervals, what is an interval. Contracts of what takes an interval (New, Take) and of what holds two against each other; the statement Builds. -/
import Derived.Test.YteephgpefhodnaaGreatRows
import Derived.Test.YteephgpefhodnaaGreatWA
import Derived.Deep.RegionWith
import Derived.OpenShut
namespace Go.Proofs.YteephgpefhodnaaGreat
open Go.RowKit Go.Sort Go.Fl
set_option linter.unusedSimpArgs false
set_option linter.unusedVariables false
theorem run_frombits (n:Int) (w:World):(callFunc 39 #[.int .u64 n]).run Tryz.prog w = .ok (.value (.float .f64 n.toNat)) w:=by
 rw [run_callFunc_extern Tryz.func39 (by kernel_rfl) (by kernel_rfl) (by kernel_rfl) (by kernel_rfl:Extern.find _=some Extern.MathFloatBits.float64frombits)]
 rfl
theorem run_tobits (n:Nat) (w:World):(callFunc 42 #[.float .f64 n]).run Tryz.prog w = .ok (.value (.int .u64 n)) w:=by
 rw [run_callFunc_extern Tryz.func42 (by kernel_rfl) (by kernel_rfl) (by kernel_rfl) (by kernel_rfl:Extern.find _=some Extern.MathFloatBits.float64bits)]
 rfl
theorem lawof_any (n:Int) (w:World) :
  Calls Tryz.prog 11 #[.int .u64 n] w fun e w'=>e = .returned (.float .f64 n.toNat)∧w=w':=by
 have h:=run_frombits
 go_enter Tryz.func11,Tryz.ntmps11
 go_wp2
 go_ret
 exact ⟨rfl,rfl⟩
theorem mathinf_pos (n:Int) (hn:0≤n) (w:World) :
  Calls Tryz.prog 73 #[.int .i64 n] w fun e w'=>e = .returned (.float .f64 (ofKey (PI)))∧w=w':=by
 have h:=run_frombits
 go_enter Tryz.func73,Tryz.ntmps73
 go_wp2
 go_ret
 exact ⟨rfl,rfl⟩
theorem refinf_any (w:World) :
  Calls Tryz.prog 59 #[] w fun e w'=>e = .returned (.float .f64 (ofKey (PI)))∧w=w':=by
 go_enter Tryz.func59,Tryz.ntmps59
 go_wp2_with (go_at_call 73;refine (mathinf_pos _ (by omega) _).mono ?_;rintro e w' ⟨rfl,rfl⟩)
 go_ret
 exact ⟨rfl,rfl⟩
theorem refempty_any (w:World) :
  Calls Tryz.prog 55 #[] w fun e w'=>e = .returned (.agg #[.float .f64 (ofKey (PI)),.float .f64 (ofKey (-PI))])∧Below w.heap.size w w':=by
 go_enter Tryz.func55,Tryz.ntmps55
 go_wp2_with (go_at_call 59;refine (refinf_any _).mono ?_;rintro e w' ⟨rfl,rfl⟩)
 go_returns
 exact ⟨rfl,by go_grown⟩
theorem ivlinf_any (w:World) :
  Calls Tryz.prog 90 #[] w fun e w'=>e = .returned (.float .f64 (ofKey (PI)))∧w=w':=by
 go_enter Tryz.func90,Tryz.ntmps90
 go_wp2_with (go_at_call 73;refine (mathinf_pos _ (by omega) _).mono ?_;rintro e w' ⟨rfl,rfl⟩)
 go_ret
 exact ⟨rfl,rfl⟩
theorem ivlempty_any (w:World) :
  Calls Tryz.prog 70 #[] w fun e w'=>e = .returned (.agg #[.float .f64 (ofKey (PI)),.float .f64 (ofKey (-PI))])∧Below w.heap.size w w':=by
 go_enter Tryz.func70,Tryz.ntmps70
 go_wp2_with (go_at_call 90;refine (ivlinf_any _).mono ?_;rintro e w' ⟨rfl,rfl⟩)
 go_returns
 exact ⟨rfl,by go_grown⟩
def good (a b:Nat):Bool:=decide (¬nan a ∧ ¬nan b∧((key a=PI∧key b = -PI)∨(key a≤key b∧key a<PI ∧ -PI<key b)))
theorem refgood_any (a b:Nat) (w:World) :
  Calls Tryz.prog 51 #[.agg #[.float .f64 (a),.float .f64 (b)]] w fun e w'=>e = .returned (.bool (good a b))∧Below w.heap.size w w':=by
 have hP:=PI_pos
 by_cases ha:nan a
 ·go_enter Tryz.func51,Tryz.ntmps51
  go_wp2
  refine wp_region_quiet_lit (by kernel_rfl) (by kernel_rfl) ?_
  repeat (any_goals (first|go_big_quiet_step ((go_at_call 59;exact quiet_s (refinf_any _)))|quiet_step ((go_at_call 59;exact quiet_s (refinf_any _)))|(refine wpQuiet_step (fun K hK => ?_);go_simp;split<;>(refine hK _ ?_;clear hK K))))
  all_goals (refine wpQuiet_nil ?_;intro _ hw';obtain ⟨nq,hw''⟩:=hw';subst hw'')
  all_goals go_wp2
  all_goals go_ret
  all_goals exact ⟨ret_b (by simp [good,ha]),below_drewN ((Below.refl _ _).alloc (Nat.le_refl _) _) _⟩
 ·have ra1:=(Rg_key ha).1
  have ra2:=(Rg_key ha).2
  by_cases hb:nan b
  ·go_enter Tryz.func51,Tryz.ntmps51
   go_wp2
   refine wp_region_quiet_lit (by kernel_rfl) (by kernel_rfl) ?_
   repeat (any_goals (first|go_big_quiet_step ((go_at_call 59;exact quiet_s (refinf_any _)))|quiet_step ((go_at_call 59;exact quiet_s (refinf_any _)))|(refine wpQuiet_step (fun K hK => ?_);go_simp;split<;>(refine hK _ ?_;clear hK K))))
   all_goals (refine wpQuiet_nil ?_;intro _ hw';obtain ⟨nq,hw''⟩:=hw';subst hw'')
   all_goals go_wp2
   all_goals go_ret
   all_goals exact ⟨ret_b (by simp [good,hb]),below_drewN ((Below.refl _ _).alloc (Nat.le_refl _) _) _⟩
  ·have rb1:=(Rg_key hb).1
   have rb2:=(Rg_key hb).2
   go_enter Tryz.func51,Tryz.ntmps51
   go_wp2
   refine wp_region_quiet_lit (by kernel_rfl) (by kernel_rfl) ?_
   repeat (any_goals (first|go_big_quiet_step ((go_at_call 59;exact quiet_s (refinf_any _)))|quiet_step ((go_at_call 59;exact quiet_s (refinf_any _)))|(refine wpQuiet_step (fun K hK => ?_);go_simp;split<;>(refine hK _ ?_;clear hK K))))
   all_goals (refine wpQuiet_nil ?_;intro _ hw';obtain ⟨nq,hw''⟩:=hw';subst hw'')
   all_goals go_wp2
   all_goals go_ret
   all_goals refine ⟨ret_b ?_,below_drewN ((Below.refl _ _).alloc (Nat.le_refl _) _) _⟩
   all_goals simp only [good,ha,hb,not_false_eq_true,true_and]
   all_goals (first|rfl|(refine (decide_eq_true ?_).symm;omega)|(refine (decide_eq_false ?_).symm;omega)|(refine decide_eq_decide.2 ?_;omega)|(rw [Bool.eq_iff_iff];simp only [Bool.and_eq_true,Bool.or_eq_true,Bool.not_eq_true,Bool.not_eq_eq_eq_not,Bool.not_true,Bool.not_false,decide_eq_true_eq,decide_eq_false_iff_not,Bool.false_eq_true,true_iff,false_iff]<;>omega))
set_option maxRecDepth 100000 in
theorem eqiv (a b c d:Nat) (w:World):(Op.equalIn 10000 39 (.agg #[.float .f64 a,.float .f64 b]) (.agg #[.float .f64 c,.float .f64 d])).run Tryz.prog w = .ok ((FloatKind.f64.format.order a c==some .eq)&&(FloatKind.f64.format.order b d==some .eq)) w:=by
 have u3 := Tryz.underlying32
 have a3 := Tryz.isAgg32
 have z3 := Tryz.sizeOf32
 have hS : Tryz.prog.underlying 39=some (.struct (Tryz.prog.fieldsOf 39)):=by kernel_rfl
 have hp : Tryz.prog.stoodInHeld 39=false:=by kernel_rfl
 rw [show (10000:Nat)=9999+1 from rfl,run_equalIn_agg w 9999 39 _ _ hS hp]
 simp only [Program.fieldsOf,Tryz.underlying39]
 have f:=fun (w:World) (x y:Nat)=>run_equalIn_float (P := Tryz.prog) w 9998 32 .f64 .f64 x y u3
 go_simp
 by_cases h1:FloatKind.f64.format.order a c=some .eq<;>by_cases h2:FloatKind.f64.format.order b d=some .eq<;>simp [h1,h2]
theorem ivlgood_any (a b:Nat) (w:World) :
  Calls Tryz.prog 82 #[.agg #[.float .f64 (a),.float .f64 (b)]] w fun e w'=>e = .returned (.bool (good a b))∧Below w.heap.size w w':=by
 have hP:=PI_pos
 have he:=eqiv
 have k0:=cell_regrown (w:=(World.alloc w (.cells #[.float .f64 (a),.float .f64 (b)] 39))) (a:=⟨w.heap.size,0,none⟩) (v := .float .f64 a) (by simp [go_sem])
 have k1:=cell_regrown (w:=(World.alloc w (.cells #[.float .f64 (a),.float .f64 (b)] 39))) (a:=⟨w.heap.size,1,none⟩) (v := .float .f64 b) (by simp [go_sem])
 by_cases ha:nan a
 ·go_enter Tryz.func82,Tryz.ntmps82
  go_wp2
  all_goals refine wp_region_below (by kernel_rfl) (by kernel_rfl) ?_
  repeat (any_goals (first|go_big_quiet_step ((first|(go_at_call 70;exact Calls.regrown_of (ivlempty_any _))|(go_at_call 90;exact quiet_same (ivlinf_any _))))|quiet_step ((first|(go_at_call 70;exact Calls.regrown_of (ivlempty_any _))|(go_at_call 90;exact quiet_same (ivlinf_any _))))|(refine wpQuiet_step (fun K hK => ?_);go_simp;split<;>(refine hK _ ?_;clear hK K))))
  all_goals (refine wpQuiet_nil (fun w2 hbw2 => ?_))
  all_goals go_wp2
  all_goals go_ret
  all_goals exact ⟨ret_b (by simp [good,ha]),below_alloc hbw2⟩
 ·have ra1:=(Rg_key ha).1
  have ra2:=(Rg_key ha).2
  by_cases hb:nan b
  ·go_enter Tryz.func82,Tryz.ntmps82
   go_wp2
   all_goals refine wp_region_below (by kernel_rfl) (by kernel_rfl) ?_
   repeat (any_goals (first|go_big_quiet_step ((first|(go_at_call 70;exact Calls.regrown_of (ivlempty_any _))|(go_at_call 90;exact quiet_same (ivlinf_any _))))|quiet_step ((first|(go_at_call 70;exact Calls.regrown_of (ivlempty_any _))|(go_at_call 90;exact quiet_same (ivlinf_any _))))|(refine wpQuiet_step (fun K hK => ?_);go_simp;split<;>(refine hK _ ?_;clear hK K))))
   all_goals (refine wpQuiet_nil (fun w2 hbw2 => ?_))
   all_goals go_wp2
   all_goals go_ret
   all_goals exact ⟨ret_b (by simp [good,hb]),below_alloc hbw2⟩
  ·have rb1:=(Rg_key hb).1
   have rb2:=(Rg_key hb).2
   go_enter Tryz.func82,Tryz.ntmps82
   go_wp2
   all_goals refine wp_region_below (by kernel_rfl) (by kernel_rfl) ?_
   repeat (any_goals (first|go_big_quiet_step ((first|(go_at_call 70;exact Calls.regrown_of (ivlempty_any _))|(go_at_call 90;exact quiet_same (ivlinf_any _))))|quiet_step ((first|(go_at_call 70;exact Calls.regrown_of (ivlempty_any _))|(go_at_call 90;exact quiet_same (ivlinf_any _))))|(refine wpQuiet_step (fun K hK => ?_);go_simp;split<;>(refine hK _ ?_;clear hK K))))
   all_goals (refine wpQuiet_nil (fun w2 hbw2 => ?_))
   all_goals go_wp2
   all_goals go_ret
   all_goals refine ⟨ret_b ?_,below_alloc hbw2⟩
   all_goals simp only [good,ha,hb,not_false_eq_true,true_and]
   all_goals (first|rfl|(refine (decide_eq_true ?_).symm;omega)|(refine (decide_eq_false ?_).symm;omega)|(refine decide_eq_decide.2 ?_;omega)|(rw [Bool.eq_iff_iff];simp only [Bool.and_eq_true,Bool.or_eq_true,Bool.not_eq_true,Bool.not_eq_eq_eq_not,Bool.not_true,Bool.not_false,decide_eq_true_eq,decide_eq_false_iff_not,Bool.false_eq_true,true_iff,false_iff]<;>omega))
end Go.Proofs.YteephgpefhodnaaGreat
namespace Go.Proofs.YteephgpefhodnaaGreat
open Go.RowKit Go.Sort Go.Fl
set_option linter.unusedSimpArgs false
set_option linter.unusedVariables false
theorem wd_of {n:Int} (h:(Lit.int .u64 n).wf=true):Wd n.toNat:=by
 have h:=bounds_u64 h
 unfold Wd
 omega
theorem good_cases {a b:Nat} (h:good a b=true) : ¬nan a ∧ ¬nan b∧((key a=PI∧key b = -PI)∨(key a≤key b∧key a<PI ∧ -PI<key b)):=by
 unfold good at h;exact of_decide_eq_true h
def tkLo (a b:Nat):Int:=if good a b then key a else PI
def tkHi (a b:Nat):Int:=if good a b then key b else -PI
def Iv (a b:Int):Prop:=Rg a∧Rg b∧((a=PI∧b = -PI)∨(a≤b∧a<PI ∧ -PI<b))
theorem tk_iv (a b:Nat):Iv (tkLo a b) (tkHi a b):=by
 unfold tkLo tkHi
 by_cases h:good a b=true
 ·rw [if_pos h,if_pos h]
  obtain ⟨h1,h2,h3⟩:=good_cases h
  exact ⟨Rg_key h1,Rg_key h2,h3⟩
 ·rw [if_neg h,if_neg h];exact ⟨Rg_PI,Rg_MI,.inl ⟨rfl,rfl⟩⟩
theorem ivlno_any (a b:Int) (ha:Rg a) (hb:Rg b) (w:World) :
  Calls Tryz.prog 50 #[.agg #[.float .f64 (ofKey (a)),.float .f64 (ofKey (b))]] w fun e w'=>e = .returned (.bool (decide (a=PI∧b = -PI)))∧Below w.heap.size w w':=by
 have he:=eqiv
 have k0:=cell_regrown (w:=(World.alloc w (.cells #[.float .f64 (ofKey a),.float .f64 (ofKey b)] 39))) (a:=⟨w.heap.size,0,none⟩) (v := .float .f64 (ofKey (a))) (by simp [go_sem])
 have k1:=cell_regrown (w:=(World.alloc w (.cells #[.float .f64 (ofKey a),.float .f64 (ofKey b)] 39))) (a:=⟨w.heap.size,1,none⟩) (v := .float .f64 (ofKey (b))) (by simp [go_sem])
 go_enter Tryz.func50,Tryz.ntmps50
 go_wp2
 all_goals refine wp_region_below (by kernel_rfl) (by kernel_rfl) ?_
 repeat (any_goals (first|go_big_quiet_step ((go_at_call 70;exact Calls.regrown_of (ivlempty_any _)))|quiet_step ((go_at_call 70;exact Calls.regrown_of (ivlempty_any _)))|(refine wpQuiet_step (fun K hK => ?_);go_simp;split<;>(refine hK _ ?_;clear hK K))))
 all_goals (refine wpQuiet_nil (fun w2 hbw2 => ?_))
 go_wp2
 go_ret
 exact ⟨ret_b (by rw [Bool.decide_and]),below_alloc hbw2⟩
theorem refno_any (a b:Int) (ha:Rg a) (hb:Rg b) (w:World) :
  Calls Tryz.prog 52 #[.agg #[.float .f64 (ofKey (a)),.float .f64 (ofKey (b))]] w fun e w'=>e = .returned (.bool (decide (b<a)))∧Below w.heap.size w w':=by
 go_enter Tryz.func52,Tryz.ntmps52
 go_wp2
 go_ret
 exact ⟨rfl,by go_grown⟩
theorem plain_any (x:Nat) (hx : ¬nan x) (hw:Wd x) (w:World) :
  Calls Tryz.prog 43 #[.float .f64 x] w fun e w'=>e = .returned (.float .f64 (ofKey (key x)))∧w=w':=by
 by_cases h:key x=0
 ·go_enter Tryz.func43,Tryz.ntmps43
  go_wp2
  go_ret
  exact ⟨by rw [h];rfl,rfl⟩
 ·go_enter Tryz.func43,Tryz.ntmps43
  go_wp2
  go_ret
  refine ⟨?_,rfl⟩
  show Ending.returned (.float .f64 x)=_
  rw [←word_of_key hw h]
theorem reftaken_any (a b:Nat) (hwa:Wd a) (hwb:Wd b) (w:World) :
  Calls Tryz.prog 53 #[.agg #[.float .f64 (a),.float .f64 (b)]] w fun e w'=>e = .returned (.agg #[.float .f64 (ofKey (tkLo a b)),.float .f64 (ofKey (tkHi a b))])∧Below w.heap.size w w':=by
 by_cases h:good a b=true
 ·obtain ⟨na,nb,_⟩:=good_cases h
  rw [show tkLo a b=key a by simp [tkLo,h],show tkHi a b=key b by simp [tkHi,h]]
  go_enter Tryz.func53,Tryz.ntmps53
  go_wp2_with (go_at_call 51;refine (refgood_any _ _ _).mono ?_;rintro e w1 ⟨rfl,hbw1⟩;skip)
  have c0:=RowKit.Below.cells hbw1 (b:=w.heap.size) (o:=0) (v := .float .f64 a) (by first|assumption|simp [go_sem])
  have c1:=RowKit.Below.cells hbw1 (b:=w.heap.size) (o:=1) (v := .float .f64 b) (by first|assumption|simp [go_sem])
  have d0:=RowKit.Below.cells hbw1 (b:=w.heap.size+1) (o:=0) (v := .float .f64 0) (by first|assumption|simp [go_sem])
  have d1:=RowKit.Below.cells hbw1 (b:=w.heap.size+1) (o:=1) (v := .float .f64 0) (by first|assumption|simp [go_sem])
  have e0:=RowKit.Below.froz hbw1 (b:=w.heap.size+1) (o:=0) (v := .float .f64 0) (by first|assumption|simp [go_sem]) (by first|assumption|simp [go_sem])
  have e1:=RowKit.Below.froz hbw1 (b:=w.heap.size+1) (o:=1) (v := .float .f64 0) (by first|assumption|simp [go_sem]) (by first|assumption|simp [go_sem])
  have k0:=cell_regrown c0
  have k1:=cell_regrown c1
  refine wp_region_below_tail 7 (by kernel_rfl) (by kernel_rfl) ?_
  simp only [List.take_succ_cons,List.take_zero,List.drop_succ_cons,List.drop_zero]
  repeat (go_big_quiet_step ((exact quiet_same (plain_any _ (by assumption) (by assumption) _))))
  refine wpQuiet_nil (fun w2 hbw2 => ?_)
  have f0:=hbw2.cells d0
  have f1:=hbw2.cells d1
  have g0:=hbw2.froz d0 e0
  have g1:=hbw2.froz d1 e1
  have B1:=below_alloc (below_alloc hbw1)
  have B2:=below_step B1 B1.size hbw2
  clear k0 k1 c0 c1 d0 d1 e0 e1
  go_wp2
  refine bodyPost_ret (v := .agg #[.float .f64 (ofKey (key a)),.float .f64 (ofKey (key b))]) (by simp [results,Tryz.results53,go_sem,f0,f1]) rfl ⟨rfl,?_⟩
  go_grown
 ·have h':good a b=false:=by simpa using h
  rw [show tkLo a b=PI by simp [tkLo,h],show tkHi a b = -PI by simp [tkHi,h]]
  go_enter Tryz.func53,Tryz.ntmps53
  go_wp2_with (first|(go_at_call 51;refine (refgood_any _ _ _).mono ?_;rintro e w1 ⟨rfl,hbw1⟩;have d0:=RowKit.Below.cells hbw1 (b:=w.heap.size+1) (o:=0) (v := .float .f64 0) (by first|assumption|simp [go_sem]);have d1:=RowKit.Below.cells hbw1 (b:=w.heap.size+1) (o:=1) (v := .float .f64 0) (by first|assumption|simp [go_sem]);have e0:=RowKit.Below.froz hbw1 (b:=w.heap.size+1) (o:=0) (v := .float .f64 0) (by first|assumption|simp [go_sem]) (by first|assumption|simp [go_sem]);have e1:=RowKit.Below.froz hbw1 (b:=w.heap.size+1) (o:=1) (v := .float .f64 0) (by first|assumption|simp [go_sem]) (by first|assumption|simp [go_sem]))|(go_at_call 55;refine (refempty_any _).mono ?_;rintro e w2 ⟨rfl,hbw2⟩;have f0:=hbw2.cells d0;have f1:=hbw2.cells d1;have g0:=hbw2.froz d0 e0;have g1:=hbw2.froz d1 e1))
  have B1:=below_alloc (below_alloc hbw1)
  have B2:=below_step B1 B1.size hbw2
  refine bodyPost_ret (v := .agg #[.float .f64 (ofKey (PI)),.float .f64 (ofKey (-PI))]) (by simp [results,Tryz.results53,go_sem,f0,f1]) rfl ⟨rfl,?_⟩
  go_grown
theorem ivltake_any (a b:Nat) (hwa:Wd a) (hwb:Wd b) (w:World) :
  Calls Tryz.prog 49 #[.agg #[.float .f64 (a),.float .f64 (b)]] w fun e w'=>e = .returned (.agg #[.float .f64 (ofKey (tkLo a b)),.float .f64 (ofKey (tkHi a b))])∧Below w.heap.size w w':=by
 by_cases h:good a b=true
 ·obtain ⟨na,nb,_⟩:=good_cases h
  rw [show tkLo a b=key a by simp [tkLo,h],show tkHi a b=key b by simp [tkHi,h]]
  go_enter Tryz.func49,Tryz.ntmps49
  go_wp2_with (go_at_call 82;refine (ivlgood_any _ _ _).mono ?_;rintro e w1 ⟨rfl,hbw1⟩;have c0:=RowKit.Below.cells hbw1 (b:=w.heap.size) (o:=0) (v := .float .f64 a) (by first|assumption|simp [go_sem]);have c1:=RowKit.Below.cells hbw1 (b:=w.heap.size) (o:=1) (v := .float .f64 b) (by first|assumption|simp [go_sem]);have d0:=RowKit.Below.cells hbw1 (b:=w.heap.size+1) (o:=0) (v := .float .f64 0) (by first|assumption|simp [go_sem]);have d1:=RowKit.Below.cells hbw1 (b:=w.heap.size+1) (o:=1) (v := .float .f64 0) (by first|assumption|simp [go_sem]);have e0:=RowKit.Below.froz hbw1 (b:=w.heap.size+1) (o:=0) (v := .float .f64 0) (by first|assumption|simp [go_sem]) (by first|assumption|simp [go_sem]);have e1:=RowKit.Below.froz hbw1 (b:=w.heap.size+1) (o:=1) (v := .float .f64 0) (by first|assumption|simp [go_sem]) (by first|assumption|simp [go_sem]))
  have B1:=below_alloc (below_alloc hbw1)
  refine bodyPost_ret (v := .agg #[.float .f64 (ofKey (key a)),.float .f64 (ofKey (key b))]) (by simp [results,Tryz.results49,go_sem,d0,d1]) rfl ⟨rfl,?_⟩
  go_grown
 ·have h':good a b=false:=by simpa using h
  rw [show tkLo a b=PI by simp [tkLo,h],show tkHi a b = -PI by simp [tkHi,h]]
  go_enter Tryz.func49,Tryz.ntmps49
  go_wp2_with (first|(go_at_call 82;refine (ivlgood_any _ _ _).mono ?_;rintro e w1 ⟨rfl,hbw1⟩;have d0:=RowKit.Below.cells hbw1 (b:=w.heap.size+1) (o:=0) (v := .float .f64 0) (by first|assumption|simp [go_sem]);have d1:=RowKit.Below.cells hbw1 (b:=w.heap.size+1) (o:=1) (v := .float .f64 0) (by first|assumption|simp [go_sem]);have e0:=RowKit.Below.froz hbw1 (b:=w.heap.size+1) (o:=0) (v := .float .f64 0) (by first|assumption|simp [go_sem]) (by first|assumption|simp [go_sem]);have e1:=RowKit.Below.froz hbw1 (b:=w.heap.size+1) (o:=1) (v := .float .f64 0) (by first|assumption|simp [go_sem]) (by first|assumption|simp [go_sem]))|(go_at_call 70;refine (ivlempty_any _).mono ?_;rintro e w2 ⟨rfl,hbw2⟩;have f0:=hbw2.cells d0;have f1:=hbw2.cells d1;have g0:=hbw2.froz d0 e0;have g1:=hbw2.froz d1 e1))
  have B1:=below_alloc (below_alloc hbw1)
  have B2:=below_step B1 B1.size hbw2
  refine bodyPost_ret (v := .agg #[.float .f64 (ofKey (PI)),.float .f64 (ofKey (-PI))]) (by simp [results,Tryz.results49,go_sem,f0,f1]) rfl ⟨rfl,?_⟩
  go_grown
theorem refno_raw (a b:Nat) (w:World) :
  Calls Tryz.prog 52 #[.agg #[.float .f64 (a),.float .f64 (b)]] w fun e w'=>e = .returned (.bool (FloatKind.f64.format.order a b==some .gt))∧Below w.heap.size w w':=by
 go_enter Tryz.func52,Tryz.ntmps52
 go_wp2
 go_ret
 exact ⟨rfl,by go_grown⟩
def some2 (a b:Nat):Bool := !decide (tkLo a b=PI∧tkHi a b = -PI)
theorem some2_no {a b:Nat} (h:good a b=false):some2 a b=false:=by simp [some2,tkLo,tkHi,h]
theorem some2_empty {a b:Nat} (h:good a b=true) (h1:key b<key a):some2 a b=false:=by
 obtain ⟨_,_,h3⟩:=good_cases h
 have e:key a=PI∧key b = -PI:=by omega
 simp [some2,tkLo,tkHi,h,e]
theorem some2_yes {a b:Nat} (h:good a b=true) (h1:key a≤key b):some2 a b=true:=by
 have hP:=PI_pos
 have e : ¬(key a=PI∧key b = -PI):=by omega
 simp [some2,tkLo,tkHi,h,e]
theorem new_any (a b:Nat) (hwa:Wd a) (hwb:Wd b) (w:World) :
  Calls Tryz.prog 19 #[.float .f64 a,.float .f64 b] w fun e w'=>e = .returned (.tuple #[.agg #[.float .f64 (ofKey (tkLo a b)),.float .f64 (ofKey (tkHi a b))],.bool (some2 a b)])∧Below w.heap.size w w':=by
 have ra:=(tk_iv a b).1
 have rb:=(tk_iv a b).2.1
 go_enter Tryz.func19,Tryz.ntmps19
 go_wp2_with (go_at_call 49;refine (ivltake_any _ _ hwa hwb _).mono ?_;rintro e w1 ⟨rfl,hbw1⟩;have d0:=RowKit.Below.cells hbw1 (b:=w.heap.size) (o:=0) (v := .float .f64 0) (by first|assumption|simp [go_sem]);have d1:=RowKit.Below.cells hbw1 (b:=w.heap.size) (o:=1) (v := .float .f64 0) (by first|assumption|simp [go_sem]);have e0:=RowKit.Below.froz hbw1 (b:=w.heap.size) (o:=0) (v := .float .f64 0) (by first|assumption|simp [go_sem]) (by first|assumption|simp [go_sem]);have e1:=RowKit.Below.froz hbw1 (b:=w.heap.size) (o:=1) (v := .float .f64 0) (by first|assumption|simp [go_sem]) (by first|assumption|simp [go_sem]))
 have hA:Below w1.heap.size w1 (w1.alloc (.cells #[.float .f64 (ofKey (tkLo a b)),.float .f64 (ofKey (tkHi a b))] 39)).drew:=((Below.refl _ _).alloc (Nat.le_refl _) _).drew
 have d0':=hA.cells d0
 have d1':=hA.cells d1
 have e0':=hA.froz d0 e0
 have e1':=hA.froz d1 e1
 have c0':(w1.alloc (.cells #[.float .f64 (ofKey (tkLo a b)),.float .f64 (ofKey (tkHi a b))] 39)).drew.cell? ⟨w1.heap.size,0,none⟩=some (.float .f64 (ofKey (tkLo a b))):=by simp
 have c1':(w1.alloc (.cells #[.float .f64 (ofKey (tkLo a b)),.float .f64 (ofKey (tkHi a b))] 39)).drew.cell? ⟨w1.heap.size,1,none⟩=some (.float .f64 (ofKey (tkHi a b))):=by simp
 have B1:=below_alloc hbw1
 have hz:=B1.size
 have B1':=below_step B1 B1.size hA
 clear hA d0 d1 e0 e1
 go_region_with (go_at_call 50;refine (ivlno_any _ _ ra rb _).mono ?_;rintro e w2 ⟨rfl,hbw2⟩;have f0:=hbw2.cells d0';have f1:=hbw2.cells d1';have g0:=hbw2.froz d0' e0';have g1:=hbw2.froz d1' e1';have h0:=hbw2.cells c0';have h1:=hbw2.cells c1';have B2:=below_step B1' B1'.size hbw2;clear hbw2 d0' d1' e0' e1' c0' c1')
 all_goals go_wp2
 all_goals refine bodyPost_ret (v := .tuple #[.agg #[.float .f64 (ofKey (tkLo a b)),.float .f64 (ofKey (tkHi a b))],.bool (some2 a b)]) (by simp [results,Tryz.results19,go_sem,f0,f1,some2]) rfl ⟨rfl,?_⟩
 all_goals go_grown
theorem refnew_any (a b:Nat) (hwa:Wd a) (hwb:Wd b) (w:World) :
  Calls Tryz.prog 20 #[.float .f64 a,.float .f64 b] w fun e w'=>e = .returned (.tuple #[.agg #[.float .f64 (ofKey (tkLo a b)),.float .f64 (ofKey (tkHi a b))],.bool (some2 a b)])∧Below w.heap.size w w':=by
 by_cases h:good a b=true
 ·obtain ⟨na,nb,_⟩:=good_cases h
  by_cases hk:key b<key a
  ·have hs:=some2_empty h hk
   go_enter Tryz.func20,Tryz.ntmps20
   go_wp2_with (first|(go_at_call 51;refine (refgood_any _ _ _).mono ?_;rintro e w1 ⟨rfl,hbw1⟩;have d0_1:=RowKit.Below.cells hbw1 (b:=w.heap.size) (o:=0) (v := .float .f64 0) (by first|assumption|simp [go_sem]);have d1_1:=RowKit.Below.cells hbw1 (b:=w.heap.size) (o:=1) (v := .float .f64 0) (by first|assumption|simp [go_sem]);have c0_1:=RowKit.Below.cells hbw1 (b:=w.heap.size+1) (o:=0) (v := .float .f64 a) (by first|assumption|simp [go_sem]);have c1_1:=RowKit.Below.cells hbw1 (b:=w.heap.size+1) (o:=1) (v := .float .f64 b) (by first|assumption|simp [go_sem]);have e0_1:=RowKit.Below.froz hbw1 (b:=w.heap.size) (o:=0) (v := .float .f64 0) (by first|assumption|simp [go_sem]) (by first|assumption|simp [go_sem]);have e1_1:=RowKit.Below.froz hbw1 (b:=w.heap.size) (o:=1) (v := .float .f64 0) (by first|assumption|simp [go_sem]) (by first|assumption|simp [go_sem]);have B1:=below_alloc (below_alloc hbw1))|(go_at_call 52;refine (refno_raw _ _ _).mono ?_;rintro e w2 ⟨rfl,hbw2⟩;have d0_2:=RowKit.Below.cells hbw2 d0_1;have d1_2:=RowKit.Below.cells hbw2 d1_1;have c0_2:=RowKit.Below.cells hbw2 c0_1;have c1_2:=RowKit.Below.cells hbw2 c1_1;have e0_2:=RowKit.Below.froz hbw2 d0_1 e0_1;have e1_2:=RowKit.Below.froz hbw2 d1_1 e1_1;clear d0_1 d1_1 c0_1 c1_1 e0_1 e1_1;have B2:=below_step B1 B1.size hbw2)|(go_at_call 53;refine (reftaken_any _ _ hwa hwb _).mono ?_;rintro e w3 ⟨rfl,hbw3⟩;have d0_3:=RowKit.Below.cells hbw3 d0_2;have d1_3:=RowKit.Below.cells hbw3 d1_2;have c0_3:=RowKit.Below.cells hbw3 c0_2;have c1_3:=RowKit.Below.cells hbw3 c1_2;have e0_3:=RowKit.Below.froz hbw3 d0_2 e0_2;have e1_3:=RowKit.Below.froz hbw3 d1_2 e1_2;clear d0_2 d1_2 c0_2 c1_2 e0_2 e1_2;have B3:=below_step B2 B2.size hbw3))
   refine bodyPost_ret (v := .tuple #[.agg #[.float .f64 (ofKey (tkLo a b)),.float .f64 (ofKey (tkHi a b))],.bool (some2 a b)]) (by simp [results,Tryz.results20,go_sem,d0_3,d1_3,hs]) rfl ⟨rfl,?_⟩
   go_grown
  ·have hk':key a≤key b:=Int.not_lt.1 hk
   have hs:=some2_yes h hk'
   go_enter Tryz.func20,Tryz.ntmps20
   go_wp2_with (first|(go_at_call 51;refine (refgood_any _ _ _).mono ?_;rintro e w1 ⟨rfl,hbw1⟩;have d0_1:=RowKit.Below.cells hbw1 (b:=w.heap.size) (o:=0) (v := .float .f64 0) (by first|assumption|simp [go_sem]);have d1_1:=RowKit.Below.cells hbw1 (b:=w.heap.size) (o:=1) (v := .float .f64 0) (by first|assumption|simp [go_sem]);have c0_1:=RowKit.Below.cells hbw1 (b:=w.heap.size+1) (o:=0) (v := .float .f64 a) (by first|assumption|simp [go_sem]);have c1_1:=RowKit.Below.cells hbw1 (b:=w.heap.size+1) (o:=1) (v := .float .f64 b) (by first|assumption|simp [go_sem]);have e0_1:=RowKit.Below.froz hbw1 (b:=w.heap.size) (o:=0) (v := .float .f64 0) (by first|assumption|simp [go_sem]) (by first|assumption|simp [go_sem]);have e1_1:=RowKit.Below.froz hbw1 (b:=w.heap.size) (o:=1) (v := .float .f64 0) (by first|assumption|simp [go_sem]) (by first|assumption|simp [go_sem]);have B1:=below_alloc (below_alloc hbw1))|(go_at_call 52;refine (refno_raw _ _ _).mono ?_;rintro e w2 ⟨rfl,hbw2⟩;have d0_2:=RowKit.Below.cells hbw2 d0_1;have d1_2:=RowKit.Below.cells hbw2 d1_1;have c0_2:=RowKit.Below.cells hbw2 c0_1;have c1_2:=RowKit.Below.cells hbw2 c1_1;have e0_2:=RowKit.Below.froz hbw2 d0_1 e0_1;have e1_2:=RowKit.Below.froz hbw2 d1_1 e1_1;clear d0_1 d1_1 c0_1 c1_1 e0_1 e1_1;have B2:=below_step B1 B1.size hbw2)|(go_at_call 53;refine (reftaken_any _ _ hwa hwb _).mono ?_;rintro e w3 ⟨rfl,hbw3⟩;have d0_3:=RowKit.Below.cells hbw3 d0_2;have d1_3:=RowKit.Below.cells hbw3 d1_2;have c0_3:=RowKit.Below.cells hbw3 c0_2;have c1_3:=RowKit.Below.cells hbw3 c1_2;have e0_3:=RowKit.Below.froz hbw3 d0_2 e0_2;have e1_3:=RowKit.Below.froz hbw3 d1_2 e1_2;clear d0_2 d1_2 c0_2 c1_2 e0_2 e1_2;have B3:=below_step B2 B2.size hbw3))
   refine bodyPost_ret (v := .tuple #[.agg #[.float .f64 (ofKey (tkLo a b)),.float .f64 (ofKey (tkHi a b))],.bool (some2 a b)]) (by simp [results,Tryz.results20,go_sem,d0_3,d1_3,hs,hk']) rfl ⟨rfl,?_⟩
   go_grown
 ·have h':good a b=false:=by simpa using h
  have hs:=some2_no h'
  go_enter Tryz.func20,Tryz.ntmps20
  go_wp2_with (first|(go_at_call 51;refine (refgood_any _ _ _).mono ?_;rintro e w1 ⟨rfl,hbw1⟩;have d0_1:=RowKit.Below.cells hbw1 (b:=w.heap.size) (o:=0) (v := .float .f64 0) (by first|assumption|simp [go_sem]);have d1_1:=RowKit.Below.cells hbw1 (b:=w.heap.size) (o:=1) (v := .float .f64 0) (by first|assumption|simp [go_sem]);have c0_1:=RowKit.Below.cells hbw1 (b:=w.heap.size+1) (o:=0) (v := .float .f64 a) (by first|assumption|simp [go_sem]);have c1_1:=RowKit.Below.cells hbw1 (b:=w.heap.size+1) (o:=1) (v := .float .f64 b) (by first|assumption|simp [go_sem]);have e0_1:=RowKit.Below.froz hbw1 (b:=w.heap.size) (o:=0) (v := .float .f64 0) (by first|assumption|simp [go_sem]) (by first|assumption|simp [go_sem]);have e1_1:=RowKit.Below.froz hbw1 (b:=w.heap.size) (o:=1) (v := .float .f64 0) (by first|assumption|simp [go_sem]) (by first|assumption|simp [go_sem]);have B1:=below_alloc (below_alloc hbw1))|(go_at_call 52;refine (refno_raw _ _ _).mono ?_;rintro e w2 ⟨rfl,hbw2⟩;have d0_2:=RowKit.Below.cells hbw2 d0_1;have d1_2:=RowKit.Below.cells hbw2 d1_1;have c0_2:=RowKit.Below.cells hbw2 c0_1;have c1_2:=RowKit.Below.cells hbw2 c1_1;have e0_2:=RowKit.Below.froz hbw2 d0_1 e0_1;have e1_2:=RowKit.Below.froz hbw2 d1_1 e1_1;clear d0_1 d1_1 c0_1 c1_1 e0_1 e1_1;have B2:=below_step B1 B1.size hbw2)|(go_at_call 53;refine (reftaken_any _ _ hwa hwb _).mono ?_;rintro e w3 ⟨rfl,hbw3⟩;have d0_3:=RowKit.Below.cells hbw3 d0_2;have d1_3:=RowKit.Below.cells hbw3 d1_2;have c0_3:=RowKit.Below.cells hbw3 c0_2;have c1_3:=RowKit.Below.cells hbw3 c1_2;have e0_3:=RowKit.Below.froz hbw3 d0_2 e0_2;have e1_3:=RowKit.Below.froz hbw3 d1_2 e1_2;clear d0_2 d1_2 c0_2 c1_2 e0_2 e1_2;have B3:=below_step B2 B2.size hbw3))
  refine bodyPost_ret (v := .tuple #[.agg #[.float .f64 (ofKey (tkLo a b)),.float .f64 (ofKey (tkHi a b))],.bool (some2 a b)]) (by simp [results,Tryz.results20,go_sem,d0_3,d1_3,hs]) rfl ⟨rfl,?_⟩
  go_grown
theorem same_refl (x:Nat) (w:World) :
  Calls Tryz.prog 16 #[.float .f64 x,.float .f64 x] w fun e w'=>e = .returned (.bool true)∧w=w':=by
 have h:=run_tobits
 go_enter Tryz.func16,Tryz.ntmps16
 go_wp2
 go_ret
 exact ⟨rfl,rfl⟩
theorem alike_refl (a b:Int) (ha:Rg a) (hb:Rg b) (w:World) :
  Calls Tryz.prog 21 #[.agg #[.float .f64 (ofKey (a)),.float .f64 (ofKey (b))],.agg #[.float .f64 (ofKey (a)),.float .f64 (ofKey (b))]] w fun e w'=>e = .returned (.bool true)∧Below w.heap.size w w':=by
 go_enter Tryz.func21,Tryz.ntmps21
 go_wp2_with (go_at_call 16;refine (same_refl _ _).mono ?_;rintro e w' ⟨rfl,rfl⟩)
 go_ret
 exact ⟨rfl,by go_grown⟩
end Go.Proofs.YteephgpefhodnaaGreat
