/- The program's sum: rounded down and up. The fields of a word; Ldexp of a whole number. Ldexp of a whole number, exact. A real given by two words, rounded: the method number. A real given by two words, rounded: the method number, the upper word being nought. -/
import Derived.Test.YteephgpefhodnaaGreatA3
import Derived.Test.YteephgpefhodnaaGreatFB
import Derived.Test.YteephgpefhodnaaGreatShelf
namespace Go.Proofs.YteephgpefhodnaaGreat
open Go.RowKit Go.Sort Go.Fl
set_option linter.unusedSimpArgs false
set_option linter.unusedVariables false
theorem isinf0_any (x:Nat) (hx : ¬nan x) (hw:Wd x) (w:World) :
  Calls Tryz.prog 41 #[.float .f64 x,.int .i64 0] w fun e w'=>e = .returned (.bool (decide (key x=PI)||decide (key x = -PI)))∧w=w':=by
 have h1:=(Rg_key hx).1;have h2:=(Rg_key hx).2;have h3:=PI_pos
 have hm : ¬nan 9218868437227405311:=by decide
 have hk:key 9218868437227405311=PI-1:=by decide
 have hn : ¬nan (absw x):=by rw [nn_absw];exact hx
 have hb:(FloatKind.f64.format.order (absw x) 9218868437227405311==some .gt)=(decide (key x=PI)||decide (key x = -PI)):=by
  rw [o_gt hn hm,hk,key_absw,←Bool.decide_or]
  refine decide_eq_decide.2 ?_
  split<;>omega
 clear hm hk
 go_enter Tryz.func41,Tryz.ntmps41
 go_wp2_with (go_at_call 74;refine (mathabs_any _ hw _).mono ?_;rintro e w' ⟨rfl,rfl⟩)
 go_ret
 exact ⟨rfl,rfl⟩
theorem copysign_neg (x:Nat) (hx:Wd x) (s:Int) (hs:Rg s) (h0:s<0) (w:World) :
  Calls Tryz.prog 98 #[.float .f64 x,.float .f64 (ofKey (s))] w fun e w'=>e = .returned (.float .f64 (2^63+absw x))∧w=w':=by
 have hws:=ofKey_lt hs
 have hlt:2^63<ofKey s:=(key_neg' (x:=ofKey s) hws (by rw [key_ofKey hs];exact h0)).1
 have h:=run_frombits
 have h':=run_tobits
 have h2:=u64_top x hx
 have h3:=u64_sign (ofKey s) hws
 rw [show ofKey s / 2^63=1 by omega] at h3
 have h4:=u64_or_low (absw x) 1 (Nat.mod_lt _ (by omega)) (by omega)
 have H4:=Lib.hid h4
 clear h4
 generalize hq:(1*2^63:Nat)=q at h3
 go_enter Tryz.func98,Tryz.ntmps98
 go_wp2
 go_ret
 refine ⟨?_,rfl⟩
 show Ending.returned (.float .f64 _)=_
 rw [←hq]
 congr 2
 have:=H4.out
 rw [this]
 omega
theorem max_words:absw 9218868437227405311=ofKey (PI-1)∧2^63+absw 9218868437227405311=ofKey (1-PI):=⟨by decide,by decide⟩
noncomputable def addK (x y:Int) (up:Bool):Int:=rnd up (cAdd x y)
theorem cAdd_comm (x y:Int):cAdd x y=cAdd y x:=by funext k;unfold cAdd;omega
theorem add_inf_val {x y s:Int} {up:Bool} (h:Near s (V x+V y) 1) (hs:s=PI∨s = -PI):addK x y up=if (decide (0<s)==up)=true then s else if 0<s then PI-1 else 1-PI :=
 rnd_eq (cut_add _ _) (sum_inf h hs up)
theorem add_fin_val {x y s r:Int} {up:Bool} (h:Near s (V x+V y) 1) (h1 : -PI<s) (h2:s<PI) (hr:Near r (V y-(V s-V x)) 1) :
  addK x y up=if 0<r∧up=true then s+1 else if r<0∧up=false then s-1 else s:=by
 obtain ⟨a,b⟩:=rest_sign hr
 rw [show V y-(V s-V x)=V x+V y-V s by omega] at a b
 have:=rnd_eq (cut_add _ _) (sum_fin h h1 h2 up)
 unfold addK
 rw [this]
 simp only [a,b]
set_option maxHeartbeats 1000000 in
theorem fpadd_big (x y:Nat) (up:Bool) (hx:fin x) (hy:fin y) (hwx:Wd x) (hwy:Wd y) (d:decide (key (absw x)<key (absw y))=false) (w:World) :
  Calls Tryz.prog 76 #[.float .f64 x,.float .f64 y,.bool up] w fun e w'=>e = .returned (.float .f64 (ofKey (addK (key x) (key y) up)))∧w=w':=by
 have hP:=PI_pos
 have nx : ¬nan x:=by unfold nan;unfold fin at hx;omega
 have ny : ¬nan y:=by unfold nan;unfold fin at hy;omega
 have nax : ¬nan (absw x):=by rw [nn_absw];exact nx
 have nay : ¬nan (absw y):=by rw [nn_absw];exact ny
 obtain ⟨s,hs1,hsn,hsw,hN⟩:=add_fin hx hy
 have hsw:Wd s:=hsw
 have rs:=fun (w:World) (t:TypeId)=>run_float_arith (P := Tryz.prog) w .add t .f64 x y s hs1
 clear hs1
 by_cases hi:key s=PI∨key s = -PI
 ·have hword:s=ofKey (key s):=word_of_key hsw (by omega)
  have hv:=add_inf_val (up:=up) hN hi
  clear hN
  have rPI:=Rg_PI
  have rMI:=Rg_MI
  rcases hi with hi|hi
  ·rw [hi] at hword hv
   subst hword
   have dp:decide (0<PI)=true:=decide_eq_true (by omega)
   clear hi
   cases up
   ·rw [show addK (key x) (key y) false=PI-1 by rw [hv,dp];simp;omega]
    clear hv
    go_enter Tryz.func76,Tryz.ntmps76
    go_wp2_with (first|(go_at_call 74;refine (mathabs_any _ (by assumption) _).mono ?_;rintro e w' ⟨rfl,rfl⟩)|(go_at_call 41;refine (isinf0_any _ (by assumption) (by assumption) _).mono ?_;rintro e w' ⟨rfl,rfl⟩)|(go_at_call 98;refine (copysign_pos _ (by unfold Wd;omega) _ (by assumption) (by omega) _).mono ?_;rintro e w' ⟨rfl,rfl⟩)|(go_at_call 98;refine (copysign_neg _ (by unfold Wd;omega) _ (by assumption) (by omega) _).mono ?_;rintro e w' ⟨rfl,rfl⟩))
    go_ret
    exact ⟨by rw [←max_words.1];rfl,rfl⟩
   ·rw [show addK (key x) (key y) true=PI by rw [hv,dp];simp]
    clear hv
    go_enter Tryz.func76,Tryz.ntmps76
    go_wp2_with (first|(go_at_call 74;refine (mathabs_any _ (by assumption) _).mono ?_;rintro e w' ⟨rfl,rfl⟩)|(go_at_call 41;refine (isinf0_any _ (by assumption) (by assumption) _).mono ?_;rintro e w' ⟨rfl,rfl⟩)|(go_at_call 98;refine (copysign_pos _ (by unfold Wd;omega) _ (by assumption) (by omega) _).mono ?_;rintro e w' ⟨rfl,rfl⟩)|(go_at_call 98;refine (copysign_neg _ (by unfold Wd;omega) _ (by assumption) (by omega) _).mono ?_;rintro e w' ⟨rfl,rfl⟩))
    go_ret
    exact ⟨rfl,rfl⟩
  ·rw [hi] at hword hv
   subst hword
   have dp:decide (0 < -PI)=false:=decide_eq_false (by omega)
   clear hi
   cases up
   ·rw [show addK (key x) (key y) false = -PI by rw [hv,dp];simp]
    clear hv
    go_enter Tryz.func76,Tryz.ntmps76
    go_wp2_with (first|(go_at_call 74;refine (mathabs_any _ (by assumption) _).mono ?_;rintro e w' ⟨rfl,rfl⟩)|(go_at_call 41;refine (isinf0_any _ (by assumption) (by assumption) _).mono ?_;rintro e w' ⟨rfl,rfl⟩)|(go_at_call 98;refine (copysign_pos _ (by unfold Wd;omega) _ (by assumption) (by omega) _).mono ?_;rintro e w' ⟨rfl,rfl⟩)|(go_at_call 98;refine (copysign_neg _ (by unfold Wd;omega) _ (by assumption) (by omega) _).mono ?_;rintro e w' ⟨rfl,rfl⟩))
    go_ret
    exact ⟨rfl,rfl⟩
   ·rw [show addK (key x) (key y) true=1-PI by rw [hv,dp];simp;omega]
    clear hv
    go_enter Tryz.func76,Tryz.ntmps76
    go_wp2_with (first|(go_at_call 74;refine (mathabs_any _ (by assumption) _).mono ?_;rintro e w' ⟨rfl,rfl⟩)|(go_at_call 41;refine (isinf0_any _ (by assumption) (by assumption) _).mono ?_;rintro e w' ⟨rfl,rfl⟩)|(go_at_call 98;refine (copysign_pos _ (by unfold Wd;omega) _ (by assumption) (by omega) _).mono ?_;rintro e w' ⟨rfl,rfl⟩)|(go_at_call 98;refine (copysign_neg _ (by unfold Wd;omega) _ (by assumption) (by omega) _).mono ?_;rintro e w' ⟨rfl,rfl⟩))
    go_ret
    exact ⟨by rw [←max_words.2];rfl,rfl⟩
 ·have s1 : -PI<key s:=by have:=(Rg_key hsn).1;omega
  have s2:key s<PI:=by have:=(Rg_key hsn).2;omega
  have fs:fin s:=fin_key.2 ⟨s1,s2⟩
  have hxk:=fin_key.1 hx
  have hyk:=fin_key.1 hy
  have hIP:=PI_INF
  have hle:(key y).natAbs≤(key x).natAbs:=by
   have e:=of_decide_eq_false d
   rw [key_absw,key_absw] at e
   split at e<;>split at e<;>omega
  obtain ⟨t,t1,t2,ht⟩:=first_exact (by omega) hle hN (by omega) (by omega)
  obtain ⟨r1,hr1,nr1,wr1,N1⟩:=sub_fin fs hx
  have k1:key r1=t:=near_exact N1 t1 t2 (by rw [ht,Int.mul_one])
  have fr1:fin r1:=fin_key.2 (by rw [k1];exact ⟨t1,t2⟩)
  obtain ⟨r2,hr2,nr2,wr2,N2⟩:=sub_fin hy fr1
  rw [k1,ht] at N2
  have hv:=add_fin_val (up:=up) hN s1 s2 N2
  have q1:=fun (w:World) (t:TypeId)=>run_float_arith (P := Tryz.prog) w .sub t .f64 s x r1 hr1
  have q2:=fun (w:World) (t:TypeId)=>run_float_arith (P := Tryz.prog) w .sub t .f64 y r1 r2 hr2
  have d0:decide (key s=PI)=false:=decide_eq_false (by omega)
  have d1:decide (key s = -PI)=false:=decide_eq_false (by omega)
  clear N1 N2 hN k1 fr1 ht t1 t2 hle hxk hyk fs hr1 hr2 t
  cases up
  ·by_cases hp:key r2<0
   ·have hu:upK (-key s) = -key s+1:=by unfold upK;rw [if_pos (by omega)]
    have hc:=fpup_any (Op.negFloat .f64 s) (by rw [nn_neg hsw];exact hsn) (wd_neg hsw)
    rw [k_neg hsw,hu] at hc
    have DNC:=Lib.hid hc
    have ru:Rg (-key s+1):=⟨by omega,by omega⟩
    have dp:decide (key r2<0)=true:=decide_eq_true hp
    have dq:decide (0<key r2)=false:=decide_eq_false (by omega)
    rw [show addK (key x) (key y) false = -(-key s+1) by rw [hv,if_neg (by simp),if_pos ⟨hp,rfl⟩];omega]
    clear hv hc hu hp
    go_enter Tryz.func76,Tryz.ntmps76
    go_wp2_with (first|(go_at_call 74;refine (mathabs_any _ (by assumption) _).mono ?_;rintro e w' ⟨rfl,rfl⟩)|(go_at_call 41;refine (isinf0_any _ (by assumption) (by assumption) _).mono ?_;rintro e w' ⟨rfl,rfl⟩)|(go_at_call 40;refine (DNC.out _).mono ?_;rintro e w' ⟨rfl,rfl⟩))
    go_ret
    exact ⟨rfl,rfl⟩
   ·have dp:decide (key r2<0)=false:=decide_eq_false hp
    rw [show addK (key x) (key y) false=key s by rw [hv,if_neg (by simp),if_neg (by intro h;exact hp h.1)]]
    clear hv hp
    go_enter Tryz.func76,Tryz.ntmps76
    go_wp2_with (first|(go_at_call 74;refine (mathabs_any _ (by assumption) _).mono ?_;rintro e w' ⟨rfl,rfl⟩)|(go_at_call 41;refine (isinf0_any _ (by assumption) (by assumption) _).mono ?_;rintro e w' ⟨rfl,rfl⟩))
    all_goals go_ret
    all_goals exact ⟨rfl,rfl⟩
  ·by_cases hp:0<key r2
   ·have hu:upK (key s)=key s+1:=by unfold upK;rw [if_pos (by omega)]
    have hc:=fpup_any s hsn hsw
    rw [hu] at hc
    have UPC:=Lib.hid hc
    have dp:decide (0<key r2)=true:=decide_eq_true hp
    rw [show addK (key x) (key y) true=key s+1 by rw [hv,if_pos ⟨hp,rfl⟩]]
    clear hv hc hu hp
    go_enter Tryz.func76,Tryz.ntmps76
    go_wp2_with (first|(go_at_call 74;refine (mathabs_any _ (by assumption) _).mono ?_;rintro e w' ⟨rfl,rfl⟩)|(go_at_call 41;refine (isinf0_any _ (by assumption) (by assumption) _).mono ?_;rintro e w' ⟨rfl,rfl⟩)|(go_at_call 40;refine (UPC.out _).mono ?_;rintro e w' ⟨rfl,rfl⟩))
    go_ret
    exact ⟨rfl,rfl⟩
   ·have dp:decide (0<key r2)=false:=decide_eq_false hp
    rw [show addK (key x) (key y) true=key s by rw [hv,if_neg (by intro h;exact hp h.1),if_neg (by simp)]]
    clear hv hp
    go_enter Tryz.func76,Tryz.ntmps76
    go_wp2_with (first|(go_at_call 74;refine (mathabs_any _ (by assumption) _).mono ?_;rintro e w' ⟨rfl,rfl⟩)|(go_at_call 41;refine (isinf0_any _ (by assumption) (by assumption) _).mono ?_;rintro e w' ⟨rfl,rfl⟩))
    all_goals go_ret
    all_goals exact ⟨rfl,rfl⟩
set_option maxHeartbeats 1000000 in
theorem fpadd_small (x y:Nat) (up:Bool) (hx:fin x) (hy:fin y) (hwx:Wd x) (hwy:Wd y) (d:decide (key (absw x)<key (absw y))=true) (w:World) :
  Calls Tryz.prog 76 #[.float .f64 x,.float .f64 y,.bool up] w fun e w'=>e = .returned (.float .f64 (ofKey (addK (key x) (key y) up)))∧w=w':=by
 rw [show addK (key x) (key y) up=addK (key y) (key x) up by unfold addK;rw [cAdd_comm]]
 have hP:=PI_pos
 have ny : ¬nan y:=by unfold nan;unfold fin at hy;omega
 have nx : ¬nan x:=by unfold nan;unfold fin at hx;omega
 have nay : ¬nan (absw y):=by rw [nn_absw];exact ny
 have nax : ¬nan (absw x):=by rw [nn_absw];exact nx
 obtain ⟨s,hs1,hsn,hsw,hN⟩:=add_fin hy hx
 have hsw:Wd s:=hsw
 have rs:=fun (w:World) (t:TypeId)=>run_float_arith (P := Tryz.prog) w .add t .f64 y x s hs1
 clear hs1
 by_cases hi:key s=PI∨key s = -PI
 ·have hword:s=ofKey (key s):=word_of_key hsw (by omega)
  have hv:=add_inf_val (up:=up) hN hi
  clear hN
  have rPI:=Rg_PI
  have rMI:=Rg_MI
  rcases hi with hi|hi
  ·rw [hi] at hword hv
   subst hword
   have dp:decide (0<PI)=true:=decide_eq_true (by omega)
   clear hi
   cases up
   ·rw [show addK (key y) (key x) false=PI-1 by rw [hv,dp];simp;omega]
    clear hv
    go_enter Tryz.func76,Tryz.ntmps76
    go_wp2_with (first|(go_at_call 74;refine (mathabs_any _ (by assumption) _).mono ?_;rintro e w' ⟨rfl,rfl⟩)|(go_at_call 41;refine (isinf0_any _ (by assumption) (by assumption) _).mono ?_;rintro e w' ⟨rfl,rfl⟩)|(go_at_call 98;refine (copysign_pos _ (by unfold Wd;omega) _ (by assumption) (by omega) _).mono ?_;rintro e w' ⟨rfl,rfl⟩)|(go_at_call 98;refine (copysign_neg _ (by unfold Wd;omega) _ (by assumption) (by omega) _).mono ?_;rintro e w' ⟨rfl,rfl⟩))
    go_ret
    exact ⟨by rw [←max_words.1];rfl,rfl⟩
   ·rw [show addK (key y) (key x) true=PI by rw [hv,dp];simp]
    clear hv
    go_enter Tryz.func76,Tryz.ntmps76
    go_wp2_with (first|(go_at_call 74;refine (mathabs_any _ (by assumption) _).mono ?_;rintro e w' ⟨rfl,rfl⟩)|(go_at_call 41;refine (isinf0_any _ (by assumption) (by assumption) _).mono ?_;rintro e w' ⟨rfl,rfl⟩)|(go_at_call 98;refine (copysign_pos _ (by unfold Wd;omega) _ (by assumption) (by omega) _).mono ?_;rintro e w' ⟨rfl,rfl⟩)|(go_at_call 98;refine (copysign_neg _ (by unfold Wd;omega) _ (by assumption) (by omega) _).mono ?_;rintro e w' ⟨rfl,rfl⟩))
    go_ret
    exact ⟨rfl,rfl⟩
  ·rw [hi] at hword hv
   subst hword
   have dp:decide (0 < -PI)=false:=decide_eq_false (by omega)
   clear hi
   cases up
   ·rw [show addK (key y) (key x) false = -PI by rw [hv,dp];simp]
    clear hv
    go_enter Tryz.func76,Tryz.ntmps76
    go_wp2_with (first|(go_at_call 74;refine (mathabs_any _ (by assumption) _).mono ?_;rintro e w' ⟨rfl,rfl⟩)|(go_at_call 41;refine (isinf0_any _ (by assumption) (by assumption) _).mono ?_;rintro e w' ⟨rfl,rfl⟩)|(go_at_call 98;refine (copysign_pos _ (by unfold Wd;omega) _ (by assumption) (by omega) _).mono ?_;rintro e w' ⟨rfl,rfl⟩)|(go_at_call 98;refine (copysign_neg _ (by unfold Wd;omega) _ (by assumption) (by omega) _).mono ?_;rintro e w' ⟨rfl,rfl⟩))
    go_ret
    exact ⟨rfl,rfl⟩
   ·rw [show addK (key y) (key x) true=1-PI by rw [hv,dp];simp;omega]
    clear hv
    go_enter Tryz.func76,Tryz.ntmps76
    go_wp2_with (first|(go_at_call 74;refine (mathabs_any _ (by assumption) _).mono ?_;rintro e w' ⟨rfl,rfl⟩)|(go_at_call 41;refine (isinf0_any _ (by assumption) (by assumption) _).mono ?_;rintro e w' ⟨rfl,rfl⟩)|(go_at_call 98;refine (copysign_pos _ (by unfold Wd;omega) _ (by assumption) (by omega) _).mono ?_;rintro e w' ⟨rfl,rfl⟩)|(go_at_call 98;refine (copysign_neg _ (by unfold Wd;omega) _ (by assumption) (by omega) _).mono ?_;rintro e w' ⟨rfl,rfl⟩))
    go_ret
    exact ⟨by rw [←max_words.2];rfl,rfl⟩
 ·have s1 : -PI<key s:=by have:=(Rg_key hsn).1;omega
  have s2:key s<PI:=by have:=(Rg_key hsn).2;omega
  have fs:fin s:=fin_key.2 ⟨s1,s2⟩
  have hyk:=fin_key.1 hy
  have hxk:=fin_key.1 hx
  have hIP:=PI_INF
  have hle:(key x).natAbs≤(key y).natAbs:=by
   have e:=of_decide_eq_true d
   rw [key_absw,key_absw] at e
   split at e<;>split at e<;>omega
  obtain ⟨t,t1,t2,ht⟩:=first_exact (by omega) hle hN (by omega) (by omega)
  obtain ⟨r1,hr1,nr1,wr1,N1⟩:=sub_fin fs hy
  have k1:key r1=t:=near_exact N1 t1 t2 (by rw [ht,Int.mul_one])
  have fr1:fin r1:=fin_key.2 (by rw [k1];exact ⟨t1,t2⟩)
  obtain ⟨r2,hr2,nr2,wr2,N2⟩:=sub_fin hx fr1
  rw [k1,ht] at N2
  have hv:=add_fin_val (up:=up) hN s1 s2 N2
  have q1:=fun (w:World) (t:TypeId)=>run_float_arith (P := Tryz.prog) w .sub t .f64 s y r1 hr1
  have q2:=fun (w:World) (t:TypeId)=>run_float_arith (P := Tryz.prog) w .sub t .f64 x r1 r2 hr2
  have d0:decide (key s=PI)=false:=decide_eq_false (by omega)
  have d1:decide (key s = -PI)=false:=decide_eq_false (by omega)
  clear N1 N2 hN k1 fr1 ht t1 t2 hle hyk hxk fs hr1 hr2 t
  cases up
  ·by_cases hp:key r2<0
   ·have hu:upK (-key s) = -key s+1:=by unfold upK;rw [if_pos (by omega)]
    have hc:=fpup_any (Op.negFloat .f64 s) (by rw [nn_neg hsw];exact hsn) (wd_neg hsw)
    rw [k_neg hsw,hu] at hc
    have DNC:=Lib.hid hc
    have ru:Rg (-key s+1):=⟨by omega,by omega⟩
    have dp:decide (key r2<0)=true:=decide_eq_true hp
    have dq:decide (0<key r2)=false:=decide_eq_false (by omega)
    rw [show addK (key y) (key x) false = -(-key s+1) by rw [hv,if_neg (by simp),if_pos ⟨hp,rfl⟩];omega]
    clear hv hc hu hp
    go_enter Tryz.func76,Tryz.ntmps76
    go_wp2_with (first|(go_at_call 74;refine (mathabs_any _ (by assumption) _).mono ?_;rintro e w' ⟨rfl,rfl⟩)|(go_at_call 41;refine (isinf0_any _ (by assumption) (by assumption) _).mono ?_;rintro e w' ⟨rfl,rfl⟩)|(go_at_call 40;refine (DNC.out _).mono ?_;rintro e w' ⟨rfl,rfl⟩))
    go_ret
    exact ⟨rfl,rfl⟩
   ·have dp:decide (key r2<0)=false:=decide_eq_false hp
    rw [show addK (key y) (key x) false=key s by rw [hv,if_neg (by simp),if_neg (by intro h;exact hp h.1)]]
    clear hv hp
    go_enter Tryz.func76,Tryz.ntmps76
    go_wp2_with (first|(go_at_call 74;refine (mathabs_any _ (by assumption) _).mono ?_;rintro e w' ⟨rfl,rfl⟩)|(go_at_call 41;refine (isinf0_any _ (by assumption) (by assumption) _).mono ?_;rintro e w' ⟨rfl,rfl⟩))
    all_goals go_ret
    all_goals exact ⟨rfl,rfl⟩
  ·by_cases hp:0<key r2
   ·have hu:upK (key s)=key s+1:=by unfold upK;rw [if_pos (by omega)]
    have hc:=fpup_any s hsn hsw
    rw [hu] at hc
    have UPC:=Lib.hid hc
    have dp:decide (0<key r2)=true:=decide_eq_true hp
    rw [show addK (key y) (key x) true=key s+1 by rw [hv,if_pos ⟨hp,rfl⟩]]
    clear hv hc hu hp
    go_enter Tryz.func76,Tryz.ntmps76
    go_wp2_with (first|(go_at_call 74;refine (mathabs_any _ (by assumption) _).mono ?_;rintro e w' ⟨rfl,rfl⟩)|(go_at_call 41;refine (isinf0_any _ (by assumption) (by assumption) _).mono ?_;rintro e w' ⟨rfl,rfl⟩)|(go_at_call 40;refine (UPC.out _).mono ?_;rintro e w' ⟨rfl,rfl⟩))
    go_ret
    exact ⟨rfl,rfl⟩
   ·have dp:decide (0<key r2)=false:=decide_eq_false hp
    rw [show addK (key y) (key x) true=key s by rw [hv,if_neg (by intro h;exact hp h.1),if_neg (by simp)]]
    clear hv hp
    go_enter Tryz.func76,Tryz.ntmps76
    go_wp2_with (first|(go_at_call 74;refine (mathabs_any _ (by assumption) _).mono ?_;rintro e w' ⟨rfl,rfl⟩)|(go_at_call 41;refine (isinf0_any _ (by assumption) (by assumption) _).mono ?_;rintro e w' ⟨rfl,rfl⟩))
    all_goals go_ret
    all_goals exact ⟨rfl,rfl⟩
theorem fpadd_any (x y:Nat) (up:Bool) (hx:fin x) (hy:fin y) (hwx:Wd x) (hwy:Wd y) (w:World) :
  Calls Tryz.prog 76 #[.float .f64 x,.float .f64 y,.bool up] w fun e w'=>e = .returned (.float .f64 (ofKey (addK (key x) (key y) up)))∧w=w':=by
 cases d:decide (key (absw x)<key (absw y))
 ·exact fpadd_big x y up hx hy hwx hwy d w
 ·exact fpadd_small x y up hx hy hwx hwy d w
end Go.Proofs.YteephgpefhodnaaGreat
namespace Go.Proofs.YteephgpefhodnaaGreat
open Go.RowKit Go.Sort Go.Fl
set_option linter.unusedSimpArgs false
set_option linter.unusedVariables false
theorem ret_parts {a b:Bool} {m n:Nat} {e f:Int} (h1:a=b) (h2:m=n) (h3:e=f):Ending.returned (.tuple #[.bool a,.int .u64 m,.int .i64 e]) = .returned (.tuple #[.bool b,.int .u64 n,.int .i64 f]):=by rw [h1,h2,h3]
theorem parts_any (x:Nat) (hw:Wd x) (w:World) :
  Calls Tryz.prog 99 #[.float .f64 x] w fun e w'=>e = .returned (.tuple #[.bool (neg x),.int .u64 (mgr (rung x):Nat),.int .i64 ((plr (rung x):Int)-1074)])∧w=w':=by
 have ht:=run_tobits
 have h1:=u64_frac x hw
 have h2:=u64_field (x / 2^52) (by unfold Wd at hw;omega)
 have h2':bits BinOp.and IntKind.u64 ((x:Int) / 4503599627370496) 2047=((x / 2^52%2^11:Nat):Int):=by
  rw [←h2];congr 1
 clear h2
 have hs:((x:Int) / 9223372036854775808==1)=neg x:=by
  unfold neg
  unfold Wd at hw
  rw [Bool.eq_iff_iff]
  simp only [beq_iff_eq]
  omega
 obtain ⟨h3,h4⟩:=word_parts x hw
 by_cases h0:x / 2^52%2^11=0
 ·rw [if_pos h0] at h3 h4
  rw [h0,Int.natCast_zero] at h2'
  rw [h3,h4]
  clear h3 h4 h0
  go_enter Tryz.func99,Tryz.ntmps99
  go_wp2
  go_ret3
  exact ⟨ret_parts rfl rfl rfl,rfl⟩
 ·rw [if_neg h0] at h3 h4
  rw [h3,h4]
  have hor:=u64_or52 (x%2^52) (Nat.mod_lt _ (by omega))
  have hlt:x / 2^52%2^11<2^11:=Nat.mod_lt _ (by omega)
  generalize x / 2^52%2^11=ef at *
  generalize hm:x%2^52=m at *
  have hb1:(1:Int)≤ef:=by omega
  have hb2:(ef:Int)≤2047:=by omega
  clear h3 h4 h0 hlt
  go_enter Tryz.func99,Tryz.ntmps99
  go_wp2
  go_ret3
  exact ⟨ret_parts rfl rfl (by omega),rfl⟩
end Go.Proofs.YteephgpefhodnaaGreat
namespace Go.Proofs.YteephgpefhodnaaGreat
open Go.RowKit Go.Sort Go.Fl
set_option linter.unusedSimpArgs false
set_option linter.unusedVariables false
theorem normalize_any (F:Nat) (h1:2^52≤F) (h2:F<INF) (w:World) :
  Calls Tryz.prog 146 #[.float .f64 F] w fun e w'=>e = .returned (.tuple #[.float .f64 F,.int .i64 0])∧w=w':=by
 have hI:=INF_eq
 have hw:Wd F:=by unfold Wd;omega
 have nF : ¬nan F:=by rw [nan_low (by omega)];omega
 have na : ¬nan (absw F):=by rw [nn_absw];exact nF
 have n2 : ¬nan 4503599627370496:=by decide
 have k2:key 4503599627370496=4503599627370496:=by decide
 have ho:(FloatKind.f64.format.order (absw F) 4503599627370496==some .lt)=false:=by
  rw [o_lt na n2,k2,key_absw,key_low (by omega)]
  exact decide_eq_false (by rw [if_pos (by omega)];omega)
 clear k2 n2
 go_enter Tryz.func146,Tryz.ntmps146
 go_wp2_with (go_at_call 74;refine (mathabs_any _ hw _).mono ?_;rintro e w' ⟨rfl,rfl⟩)
 go_ret2
 exact ⟨rfl,rfl⟩
theorem ldexp_any (q F r:Nat) (p:Int) (h0:0<q) (hq:q≤2^53) (hF:M F=q*2^X74) (hFI:F<INF) (hr:M r=q*2^(p+1074).toNat) (hrI:r≤INF) (hp1 : -1074≤p) (hp2:p≤971) (w:World) :
  Calls Tryz.prog 143 #[.float .f64 F,.int .i64 p] w fun e w'=>e = .returned (.float .f64 r)∧w=w':=by
 have hI:=INF_eq
 obtain ⟨f1,f2⟩:=F_range h0 hq hF
 have hw:Wd F:=by unfold Wd;omega
 have nF : ¬nan F:=by rw [nan_low (by omega)];omega
 have hk:key F=(F:Int):=key_low (by omega)
 have d0:decide (key F=0)=false:=decide_eq_false (by omega)
 have d1:decide (key F=PI)=false:=decide_eq_false (by have:=PI_INF;omega)
 have d2:decide (key F = -PI)=false:=decide_eq_false (by have:=PI_INF;omega)
 have d3:decide (key F<0)=false:=decide_eq_false (by omega)
 have ht:=run_tobits
 have hf:=run_frombits
 clear hk
 generalize hfe:F / 2^52=fe at *
 have e1:(F:Int) / 4503599627370496=(fe:Int):=by rw [←hfe];omega
 have b1:(1023:Int)≤fe:=by omega
 have b2:(fe:Int)≤1076:=by omega
 have h3:=i64_field fe (by omega)
 have hnf:=u64_nofield F (by omega)
 have hor:=fun k (hk:k<2^11)=>u64_or_field (F%2^52) k (Nat.mod_lt _ (by omega)) hk
 have hE:=ld_inf h0 hq hF hr hrI
 have hN:=ld_norm hF hr hp1 (by omega)
 have hD:=ld_den h0 hF hr hp1
 rw [hfe] at hE hN hD
 have hinf:=mathinf_pos 1 (by omega)
 rcases Int.lt_or_le 1023 (p+(fe:Int)-1023) with c1|c1
 ·have hri:=hE c1
  have hi:=Lib.hid hinf
  clear hE hN hD hor hnf hinf hr hF hrI f1 f2 hI hfe
  go_enter Tryz.func143,Tryz.ntmps143
  go_wp2_with (first|(go_at_call 41;refine (isinf0_any _ nF hw _).mono ?_;rintro e w' ⟨rfl,rfl⟩)|(go_at_call 97;refine (isnan_no _ nF _).mono ?_;rintro e w' ⟨rfl,rfl⟩)|(go_at_call 146;refine (normalize_any _ (by omega) hFI _).mono ?_;rintro e w' ⟨rfl,rfl⟩)|(go_at_call 73;refine (hi.out _).mono ?_;rintro e w' ⟨rfl,rfl⟩))
  go_ret
  exact ⟨by rw [hri];rfl,rfl⟩
 ·rcases Int.lt_or_le (p+(fe:Int)-1023) (-1022) with c2|c2
  ·obtain ⟨W,hW1,hW2⟩:=hD (by omega) (by omega)
   obtain ⟨k,hk⟩ : ∃ k:Nat,(k:Int)=p+53+fe:=⟨(p+53+fe).toNat,by omega⟩
   have ho:=hor k (by omega)
   have hr0:0<r:=by
    rcases Nat.eq_zero_or_pos r with h|h
    ·rw [h,M_zero] at hr
     have:=Nat.mul_pos h0 (Nat.two_pow_pos (p+1074).toNat)
     omega
    ·exact h
   have hrI':r<INF:=by
    have hd:=MF_down hF hr (by omega) hp1
    have h2:M r≤M F:=by rw [hd];exact Nat.le_mul_of_pos_right _ (Nat.two_pow_pos _)
    have:=M_le_iff.1 h2
    omega
   have hm:=mul_c53 (W:=W) (r:=r) (by omega) hr0 hrI' hW2
   have hrk:k*2^52+F%2^52=W:=by omega
   rw [hrk] at ho
   have rm:=fun (w:World) (t:TypeId)=>run_float_arith (P := Tryz.prog) w .mul t .f64 _ _ _ hm
   clear hW2 hm hr hF
   have ho':bits BinOp.or IntKind.u64 ((F%2^52:Nat):Int) ((p+((fe:Int)-1023)+53+1023)*4503599627370496)=(W:Int):=by
    rw [←ho];congr 1;omega
   generalize hFm:F%2^52=m at *
   have x1:(0:Int)≤p+(fe-1023)+53+1023:=by omega
   have x2:p+(fe-1023)+53+1023≤2046:=by omega
   clear hE hN hD hor hinf hrI hrk hFm ho hW1 hr0 hrI'
   go_enter Tryz.func143,Tryz.ntmps143
   go_wp2_with (first|(go_at_call 41;refine (isinf0_any _ nF hw _).mono ?_;rintro e w' ⟨rfl,rfl⟩)|(go_at_call 97;refine (isnan_no _ nF _).mono ?_;rintro e w' ⟨rfl,rfl⟩)|(go_at_call 146;refine (normalize_any _ (by omega) hFI _).mono ?_;rintro e w' ⟨rfl,rfl⟩))
   go_ret
   exact ⟨rfl,rfl⟩
  ·have hri:=hN (by omega)
   obtain ⟨k,hk⟩ : ∃ k:Nat,(k:Int)=p+fe:=⟨(p+fe).toNat,by omega⟩
   have ho:=hor k (by omega)
   have hm:=mul_one (r:=r) (by omega) (by omega)
   have hrk:k*2^52+F%2^52=r:=by omega
   rw [hrk] at ho
   have rm:=fun (w:World) (t:TypeId)=>run_float_arith (P := Tryz.prog) w .mul t .f64 _ _ _ hm
   have ho':bits BinOp.or IntKind.u64 ((F%2^52:Nat):Int) ((p+((fe:Int)-1023)+1023)*4503599627370496)=(r:Int):=by
    rw [←ho];congr 1;omega
   generalize hFm:F%2^52=m at *
   have x1:(0:Int)≤p+(fe-1023)+1023:=by omega
   have x2:p+(fe-1023)+1023≤2046:=by omega
   clear hE hN hD hor hinf hr hF hrI hm hrk hri hFm ho
   go_enter Tryz.func143,Tryz.ntmps143
   go_wp2_with (first|(go_at_call 41;refine (isinf0_any _ nF hw _).mono ?_;rintro e w' ⟨rfl,rfl⟩)|(go_at_call 97;refine (isnan_no _ nF _).mono ?_;rintro e w' ⟨rfl,rfl⟩)|(go_at_call 146;refine (normalize_any _ (by omega) hFI _).mono ?_;rintro e w' ⟨rfl,rfl⟩))
   go_ret
   exact ⟨rfl,rfl⟩
theorem mathldexp_any (q F r:Nat) (p:Int) (h0:0<q) (hq:q≤2^53) (hF:M F=q*2^X74) (hFI:F<INF) (hr:M r=q*2^(p+1074).toNat) (hrI:r≤INF) (hp1 : -1074≤p) (hp2:p≤971) (w:World) :
  Calls Tryz.prog 140 #[.float .f64 F,.int .i64 p] w fun e w'=>e = .returned (.float .f64 r)∧w=w':=by
 have hc:=ldexp_any q F r p h0 hq hF hFI hr hrI hp1 hp2
 have HC:=Lib.hid hc
 clear hc hF hr
 go_enter Tryz.func140,Tryz.ntmps140
 go_wp2_with (go_at_call 143;refine (HC.out _).mono ?_;rintro e w' ⟨rfl,rfl⟩)
 go_ret
 exact ⟨rfl,rfl⟩
theorem mathldexp_zero (p:Int) (w:World) :
  Calls Tryz.prog 140 #[.float .f64 0,.int .i64 p] w fun e w'=>e = .returned (.float .f64 0)∧w=w':=by
 have hc : ∀ w,Calls Tryz.prog 143 #[.float .f64 0,.int .i64 p] w fun e w'=>e = .returned (.float .f64 0)∧w=w':=by
  intro w
  go_enter Tryz.func143,Tryz.ntmps143
  go_wp2_with fail
  go_ret
  exact ⟨rfl,rfl⟩
 have HC:=Lib.hid hc
 clear hc
 go_enter Tryz.func140,Tryz.ntmps140
 go_wp2_with (go_at_call 143;refine (HC.out _).mono ?_;rintro e w' ⟨rfl,rfl⟩)
 go_ret
 exact ⟨rfl,rfl⟩
end Go.Proofs.YteephgpefhodnaaGreat
namespace Go.Proofs.YteephgpefhodnaaGreat
open Go.RowKit Go.Sort Go.Fl
set_option linter.unusedSimpArgs false
set_option linter.unusedVariables false
theorem ret_w {a b:Nat} (h:a=b):Ending.returned (.float .f64 a) = .returned (.float .f64 b):=by rw [h]
set_option maxHeartbeats 2000000 in
theorem number_over (hi lo:Nat) (e:Int) (rest away:Bool) (n H L:Nat) (hn:64-(Lib.bitLen hi:Int)=n) (hn2:n≤63) (hhi:((hi:Int)==0)=false) (b1:hi<2^64) (b2:H<2^64) (e1 : -5000≤e) (e2:e≤5000) (hH:bits BinOp.or IntKind.u64 (IntKind.u64.wrap ((hi:Int)*2^n)) ((lo:Int) / 2^(64-n))=(H:Int)) (hL:IntKind.u64.wrap ((lo:Int)*2^n)=(L:Int)) (c1:1023<e+127-n) (w:World) :
  Calls Tryz.prog 128 #[.agg #[.int .u64 hi,.int .u64 lo,.int .i64 e,.bool rest],.bool away] w fun e w'=>e = .returned (.float .f64 (if away=true then INF else INF-1))∧Below w.heap.size w w':=by
 have hz := Tryz.bits_LeadingZeros64 (hi:Int)
 have h0:(0:Int)≤hi:=by omega
 have hm:(hi:Int)≤18446744073709551615:=by omega
 have x1:(0:Int)≤n:=by omega
 have x2:(n:Int)≤63:=by omega
 have HZ:=Lib.hid hz
 have HN:=Lib.hid hn
 have HM:=Lib.hid hm
 have HL:=Lib.hid hL
 clear hz hn b1 hm hL
 go_enter Tryz.func128,Tryz.ntmps128
 go_wp2_with (go_at_call 102;refine (HZ.out _ h0 HM.out).mono ?_;rintro e w' ⟨rfl,rfl⟩;rw [Int.toNat_natCast,HN.out])
 have k0:=cell_regrown (w:=(World.alloc w (.cells #[.int .u64 hi,.int .u64 lo,.int .i64 e,.bool rest] 99))) (a:=⟨w.heap.size,0,none⟩) (v := .int .u64 hi) (by simp [go_sem])
 have k1:=cell_regrown (w:=(World.alloc w (.cells #[.int .u64 hi,.int .u64 lo,.int .i64 e,.bool rest] 99))) (a:=⟨w.heap.size,1,none⟩) (v := .int .u64 lo) (by simp [go_sem])
 have k2:=cell_regrown (w:=(World.alloc w (.cells #[.int .u64 hi,.int .u64 lo,.int .i64 e,.bool rest] 99))) (a:=⟨w.heap.size,2,none⟩) (v := .int .i64 e) (by simp [go_sem])
 have k3:=cell_regrown (w:=(World.alloc w (.cells #[.int .u64 hi,.int .u64 lo,.int .i64 e,.bool rest] 99))) (a:=⟨w.heap.size,3,none⟩) (v := .bool rest) (by simp [go_sem])
 refine wp_region_below_tail 11 (by kernel_rfl) (by kernel_rfl) ?_
 simp only [List.take_succ_cons,List.take_zero,List.drop_succ_cons,List.drop_zero]
 repeat (go_big_quiet_step ((fail)))
 refine wpQuiet_nil (fun w2 hbw2 => ?_)
 have f0:=RowKit.Below.cells hbw2 (b:=w.heap.size) (o:=0) (v := .int .u64 hi) (by simp [go_sem])
 have g0:=RowKit.Below.froz hbw2 (b:=w.heap.size) (o:=0) (v := .int .u64 hi) (by simp [go_sem]) (by simp [go_sem])
 have f1:=RowKit.Below.cells hbw2 (b:=w.heap.size) (o:=1) (v := .int .u64 lo) (by simp [go_sem])
 have g1:=RowKit.Below.froz hbw2 (b:=w.heap.size) (o:=1) (v := .int .u64 lo) (by simp [go_sem]) (by simp [go_sem])
 have f2:=RowKit.Below.cells hbw2 (b:=w.heap.size) (o:=2) (v := .int .i64 e) (by simp [go_sem])
 have g2:=RowKit.Below.froz hbw2 (b:=w.heap.size) (o:=2) (v := .int .i64 e) (by simp [go_sem]) (by simp [go_sem])
 have f3:=RowKit.Below.cells hbw2 (b:=w.heap.size) (o:=3) (v := .bool rest) (by simp [go_sem])
 have g3:=RowKit.Below.froz hbw2 (b:=w.heap.size) (o:=3) (v := .bool rest) (by simp [go_sem]) (by simp [go_sem])
 clear k0 k1 k2 k3
 iterate 3 go_step
 have hL:=HL.out
 obtain ⟨w3,hw3⟩ : ∃ w3,w3=w2.setCell ⟨w.heap.size,0,none⟩ (.int .u64 H):=⟨_,rfl⟩
 rw [←hw3]
 have F0:w3.cell? ⟨w.heap.size,0,none⟩=some (.int .u64 H):=by rw [hw3];simp [go_sem,f0]
 have F1:w3.cell? ⟨w.heap.size,1,none⟩=some (.int .u64 lo):=by rw [hw3];simp [go_sem,f0,f1]
 have F2:w3.cell? ⟨w.heap.size,2,none⟩=some (.int .i64 e):=by rw [hw3];simp [go_sem,f0,f2]
 have F3:w3.cell? ⟨w.heap.size,3,none⟩=some (.bool rest):=by rw [hw3];simp [go_sem,f0,f3]
 have G1:w3.frozen? ⟨w.heap.size,1,none⟩=false:=by rw [hw3];simp [go_sem,g1]
 have B2:=below_alloc hbw2
 have B3:Below w.heap.size w w3:=by rw [hw3];go_grown
 clear hw3 f0 f1 f2 f3 g0 g1 g2 g3 hbw2 B2 hH HL
 go_wp2_with (go_at_call 73;refine (mathinf_pos _ (by omega) _).mono ?_;rintro e w' ⟨rfl,rfl⟩)
 all_goals go_ret
 all_goals refine ⟨?_,by go_grown⟩
 all_goals first|rfl|(rw [if_pos (by assumption)];rfl)|(rw [if_neg (by assumption)];rfl)
set_option maxHeartbeats 2000000 in
theorem number_n53 (hi lo:Nat) (e:Int) (rest away:Bool) (n H L:Nat) (hn:64-(Lib.bitLen hi:Int)=n) (hn2:n≤63) (hhi:((hi:Int)==0)=false) (b1:hi<2^64) (b2:H<2^64) (e1 : -5000≤e) (e2:e≤5000) (hH:bits BinOp.or IntKind.u64 (IntKind.u64.wrap ((hi:Int)*2^n)) ((lo:Int) / 2^(64-n))=(H:Int)) (hL:IntKind.u64.wrap ((lo:Int)*2^n)=(L:Int)) (c1 : -1022≤e+127-n) (c2:e+127-n≤1023) (xH:Bool) (hX:(IntKind.u64.wrap ((H:Int)*9007199254740992) != 0)=xH) (r:Nat) (hl0 : ∀ w:World,Calls Tryz.prog 140 #[.float .f64 (floatOfInt FloatKind.f64 ((H:Int) / 2048)),.int .i64 (e+127-n-53+1)] w fun e w'=>e = .returned (.float .f64 r)∧w=w') (hl1 : ∀ w:World,Calls Tryz.prog 140 #[.float .f64 (floatOfInt FloatKind.f64 ((H:Int) / 2048+1)),.int .i64 (e+127-n-53+1)] w fun e w'=>e = .returned (.float .f64 (r+1))∧w=w') (w:World) :
  Calls Tryz.prog 128 #[.agg #[.int .u64 hi,.int .u64 lo,.int .i64 e,.bool rest],.bool away] w fun e w'=>e = .returned (.float .f64 (r+(away&&(rest||decide (L≠0)||xH)).toNat))∧Below w.heap.size w w':=by
 have L0:=Lib.hid hl0
 have L1:=Lib.hid hl1
 have HX:=Lib.hid hX
 clear hl0 hl1 hX
 have hz := Tryz.bits_LeadingZeros64 (hi:Int)
 have h0:(0:Int)≤hi:=by omega
 have hm:(hi:Int)≤18446744073709551615:=by omega
 have x1:(0:Int)≤n:=by omega
 have x2:(n:Int)≤63:=by omega
 have HZ:=Lib.hid hz
 have HN:=Lib.hid hn
 have HM:=Lib.hid hm
 have HL:=Lib.hid hL
 clear hz hn b1 hm hL
 go_enter Tryz.func128,Tryz.ntmps128
 go_wp2_with (go_at_call 102;refine (HZ.out _ h0 HM.out).mono ?_;rintro e w' ⟨rfl,rfl⟩;rw [Int.toNat_natCast,HN.out])
 have k0:=cell_regrown (w:=(World.alloc w (.cells #[.int .u64 hi,.int .u64 lo,.int .i64 e,.bool rest] 99))) (a:=⟨w.heap.size,0,none⟩) (v := .int .u64 hi) (by simp [go_sem])
 have k1:=cell_regrown (w:=(World.alloc w (.cells #[.int .u64 hi,.int .u64 lo,.int .i64 e,.bool rest] 99))) (a:=⟨w.heap.size,1,none⟩) (v := .int .u64 lo) (by simp [go_sem])
 have k2:=cell_regrown (w:=(World.alloc w (.cells #[.int .u64 hi,.int .u64 lo,.int .i64 e,.bool rest] 99))) (a:=⟨w.heap.size,2,none⟩) (v := .int .i64 e) (by simp [go_sem])
 have k3:=cell_regrown (w:=(World.alloc w (.cells #[.int .u64 hi,.int .u64 lo,.int .i64 e,.bool rest] 99))) (a:=⟨w.heap.size,3,none⟩) (v := .bool rest) (by simp [go_sem])
 refine wp_region_below_tail 11 (by kernel_rfl) (by kernel_rfl) ?_
 simp only [List.take_succ_cons,List.take_zero,List.drop_succ_cons,List.drop_zero]
 repeat (go_big_quiet_step ((fail)))
 refine wpQuiet_nil (fun w2 hbw2 => ?_)
 have f0:=RowKit.Below.cells hbw2 (b:=w.heap.size) (o:=0) (v := .int .u64 hi) (by simp [go_sem])
 have g0:=RowKit.Below.froz hbw2 (b:=w.heap.size) (o:=0) (v := .int .u64 hi) (by simp [go_sem]) (by simp [go_sem])
 have f1:=RowKit.Below.cells hbw2 (b:=w.heap.size) (o:=1) (v := .int .u64 lo) (by simp [go_sem])
 have g1:=RowKit.Below.froz hbw2 (b:=w.heap.size) (o:=1) (v := .int .u64 lo) (by simp [go_sem]) (by simp [go_sem])
 have f2:=RowKit.Below.cells hbw2 (b:=w.heap.size) (o:=2) (v := .int .i64 e) (by simp [go_sem])
 have g2:=RowKit.Below.froz hbw2 (b:=w.heap.size) (o:=2) (v := .int .i64 e) (by simp [go_sem]) (by simp [go_sem])
 have f3:=RowKit.Below.cells hbw2 (b:=w.heap.size) (o:=3) (v := .bool rest) (by simp [go_sem])
 have g3:=RowKit.Below.froz hbw2 (b:=w.heap.size) (o:=3) (v := .bool rest) (by simp [go_sem]) (by simp [go_sem])
 clear k0 k1 k2 k3
 iterate 3 go_step
 have hL:=HL.out
 obtain ⟨w3,hw3⟩ : ∃ w3,w3=w2.setCell ⟨w.heap.size,0,none⟩ (.int .u64 H):=⟨_,rfl⟩
 rw [←hw3]
 have F0:w3.cell? ⟨w.heap.size,0,none⟩=some (.int .u64 H):=by rw [hw3];simp [go_sem,f0]
 have F1:w3.cell? ⟨w.heap.size,1,none⟩=some (.int .u64 lo):=by rw [hw3];simp [go_sem,f0,f1]
 have F2:w3.cell? ⟨w.heap.size,2,none⟩=some (.int .i64 e):=by rw [hw3];simp [go_sem,f0,f2]
 have F3:w3.cell? ⟨w.heap.size,3,none⟩=some (.bool rest):=by rw [hw3];simp [go_sem,f0,f3]
 have G1:w3.frozen? ⟨w.heap.size,1,none⟩=false:=by rw [hw3];simp [go_sem,g1]
 have B2:=below_alloc hbw2
 have B3:Below w.heap.size w w3:=by rw [hw3];go_grown
 clear hw3 f0 f1 f2 f3 g0 g1 g2 g3 hbw2 B2 hH HL
 go_wp2_with (go_at_call 140;(first|(with_reducible refine (L0.out _).mono ?_)|(with_reducible refine (L1.out _).mono ?_));rintro e w' ⟨rfl,rfl⟩)
 all_goals go_ret
 all_goals refine ⟨?_,by go_grown⟩
 all_goals refine ret_w ?_
 all_goals have hX:=HX.out
 all_goals clear HZ HN HM L0 L1 HX F0 F1 F2 F3 G1 B3 hL hhi
 all_goals simp_all
set_option maxHeartbeats 2000000 in
theorem number_sub (hi lo:Nat) (e:Int) (rest away:Bool) (n H L:Nat) (hn:64-(Lib.bitLen hi:Int)=n) (hn2:n≤63) (hhi:((hi:Int)==0)=false) (b1:hi<2^64) (b2:H<2^64) (e1 : -5000≤e) (e2:e≤5000) (hH:bits BinOp.or IntKind.u64 (IntKind.u64.wrap ((hi:Int)*2^n)) ((lo:Int) / 2^(64-n))=(H:Int)) (hL:IntKind.u64.wrap ((lo:Int)*2^n)=(L:Int)) (c1:e+127-n < -1022) (c2:0<e+127-n - -1074+1) (xH:Bool) (hK:((max 0 (e+127 - ↑n+1074+1))==0)=false) (hX:(IntKind.u64.wrap ((H:Int)*2^(max 0 (e+127 - ↑n+1074+1)).toNat) != 0)=xH) (r:Nat) (hl0:(∀ w:World,Calls Tryz.prog 140 #[.float .f64 (floatOfInt FloatKind.f64 ((H:Int) / 2^(64-(max 0 (e+127 - ↑n+1074+1))).toNat)),.int .i64 (e+127-n-(max 0 (e+127 - ↑n+1074+1))+1)] w fun e w'=>e = .returned (.float .f64 r)∧w=w')) (hl1:(∀ w:World,Calls Tryz.prog 140 #[.float .f64 (floatOfInt FloatKind.f64 (IntKind.u64.wrap ((H:Int) / 2^(64-(max 0 (e+127 - ↑n+1074+1))).toNat+1))),.int .i64 (e+127-n-(max 0 (e+127 - ↑n+1074+1))+1)] w fun e w'=>e = .returned (.float .f64 (r+1))∧w=w')) (w:World) :
  Calls Tryz.prog 128 #[.agg #[.int .u64 hi,.int .u64 lo,.int .i64 e,.bool rest],.bool away] w fun e w'=>e = .returned (.float .f64 (r+(away&&(rest||decide (L≠0)||xH)).toNat))∧Below w.heap.size w w':=by
 have L0:=Lib.hid hl0
 have L1:=Lib.hid hl1
 have HX:=Lib.hid hX
 have HK:=Lib.hid hK
 clear hl0 hl1 hX hK
 have hz := Tryz.bits_LeadingZeros64 (hi:Int)
 have h0:(0:Int)≤hi:=by omega
 have hm:(hi:Int)≤18446744073709551615:=by omega
 have x1:(0:Int)≤n:=by omega
 have x2:(n:Int)≤63:=by omega
 have HZ:=Lib.hid hz
 have HN:=Lib.hid hn
 have HM:=Lib.hid hm
 have HL:=Lib.hid hL
 clear hz hn b1 hm hL
 go_enter Tryz.func128,Tryz.ntmps128
 go_wp2_with (go_at_call 102;refine (HZ.out _ h0 HM.out).mono ?_;rintro e w' ⟨rfl,rfl⟩;rw [Int.toNat_natCast,HN.out])
 have k0:=cell_regrown (w:=(World.alloc w (.cells #[.int .u64 hi,.int .u64 lo,.int .i64 e,.bool rest] 99))) (a:=⟨w.heap.size,0,none⟩) (v := .int .u64 hi) (by simp [go_sem])
 have k1:=cell_regrown (w:=(World.alloc w (.cells #[.int .u64 hi,.int .u64 lo,.int .i64 e,.bool rest] 99))) (a:=⟨w.heap.size,1,none⟩) (v := .int .u64 lo) (by simp [go_sem])
 have k2:=cell_regrown (w:=(World.alloc w (.cells #[.int .u64 hi,.int .u64 lo,.int .i64 e,.bool rest] 99))) (a:=⟨w.heap.size,2,none⟩) (v := .int .i64 e) (by simp [go_sem])
 have k3:=cell_regrown (w:=(World.alloc w (.cells #[.int .u64 hi,.int .u64 lo,.int .i64 e,.bool rest] 99))) (a:=⟨w.heap.size,3,none⟩) (v := .bool rest) (by simp [go_sem])
 refine wp_region_below_tail 11 (by kernel_rfl) (by kernel_rfl) ?_
 simp only [List.take_succ_cons,List.take_zero,List.drop_succ_cons,List.drop_zero]
 repeat (go_big_quiet_step ((fail)))
 refine wpQuiet_nil (fun w2 hbw2 => ?_)
 have f0:=RowKit.Below.cells hbw2 (b:=w.heap.size) (o:=0) (v := .int .u64 hi) (by simp [go_sem])
 have g0:=RowKit.Below.froz hbw2 (b:=w.heap.size) (o:=0) (v := .int .u64 hi) (by simp [go_sem]) (by simp [go_sem])
 have f1:=RowKit.Below.cells hbw2 (b:=w.heap.size) (o:=1) (v := .int .u64 lo) (by simp [go_sem])
 have g1:=RowKit.Below.froz hbw2 (b:=w.heap.size) (o:=1) (v := .int .u64 lo) (by simp [go_sem]) (by simp [go_sem])
 have f2:=RowKit.Below.cells hbw2 (b:=w.heap.size) (o:=2) (v := .int .i64 e) (by simp [go_sem])
 have g2:=RowKit.Below.froz hbw2 (b:=w.heap.size) (o:=2) (v := .int .i64 e) (by simp [go_sem]) (by simp [go_sem])
 have f3:=RowKit.Below.cells hbw2 (b:=w.heap.size) (o:=3) (v := .bool rest) (by simp [go_sem])
 have g3:=RowKit.Below.froz hbw2 (b:=w.heap.size) (o:=3) (v := .bool rest) (by simp [go_sem]) (by simp [go_sem])
 clear k0 k1 k2 k3
 iterate 3 go_step
 have hL:=HL.out
 obtain ⟨w3,hw3⟩ : ∃ w3,w3=w2.setCell ⟨w.heap.size,0,none⟩ (.int .u64 H):=⟨_,rfl⟩
 rw [←hw3]
 have F0:w3.cell? ⟨w.heap.size,0,none⟩=some (.int .u64 H):=by rw [hw3];simp [go_sem,f0]
 have F1:w3.cell? ⟨w.heap.size,1,none⟩=some (.int .u64 lo):=by rw [hw3];simp [go_sem,f0,f1]
 have F2:w3.cell? ⟨w.heap.size,2,none⟩=some (.int .i64 e):=by rw [hw3];simp [go_sem,f0,f2]
 have F3:w3.cell? ⟨w.heap.size,3,none⟩=some (.bool rest):=by rw [hw3];simp [go_sem,f0,f3]
 have G1:w3.frozen? ⟨w.heap.size,1,none⟩=false:=by rw [hw3];simp [go_sem,g1]
 have B2:=below_alloc hbw2
 have B3:Below w.heap.size w w3:=by rw [hw3];go_grown
 clear hw3 f0 f1 f2 f3 g0 g1 g2 g3 hbw2 B2 hH HL
 go_wp2_with (first|(go_at_call 140;(first|(with_reducible refine (L0.out _).mono ?_)|(with_reducible refine (L1.out _).mono ?_));rintro e w' ⟨rfl,rfl⟩)|(rw [HK.out]))
 all_goals go_ret
 all_goals refine ⟨?_,by go_grown⟩
 all_goals refine ret_w ?_
 all_goals have hX:=HX.out
 all_goals have hK:=HK.out
 all_goals clear HZ HN HM L0 L1 HX HK F0 F1 F2 F3 G1 B3 hL hhi
 all_goals simp_all
set_option maxHeartbeats 2000000 in
theorem number_k0 (hi lo:Nat) (e:Int) (rest away:Bool) (n H L:Nat) (hn:64-(Lib.bitLen hi:Int)=n) (hn2:n≤63) (hhi:((hi:Int)==0)=false) (b1:hi<2^64) (b2:H<2^64) (e1 : -5000≤e) (e2:e≤5000) (hH:bits BinOp.or IntKind.u64 (IntKind.u64.wrap ((hi:Int)*2^n)) ((lo:Int) / 2^(64-n))=(H:Int)) (hL:IntKind.u64.wrap ((lo:Int)*2^n)=(L:Int)) (c1:e+127-n < -1022) (c2:e+127-n - -1074+1≤0) (xH:Bool) (hK:((max 0 (e+127 - ↑n+1074+1))==0)=true) (hX:(IntKind.u64.wrap ((H:Int)*2^(max 0 (e+127 - ↑n+1074+1)).toNat) != 0)=xH) (r:Nat) (hl0:(∀ w:World,Calls Tryz.prog 140 #[.float .f64 (floatOfInt FloatKind.f64 ((H:Int) / 2^(64-(max 0 (e+127 - ↑n+1074+1))).toNat)),.int .i64 (-1074)] w fun e w'=>e = .returned (.float .f64 r)∧w=w')) (hl1:(∀ w:World,Calls Tryz.prog 140 #[.float .f64 (floatOfInt FloatKind.f64 (IntKind.u64.wrap ((H:Int) / 2^(64-(max 0 (e+127 - ↑n+1074+1))).toNat+1))),.int .i64 (-1074)] w fun e w'=>e = .returned (.float .f64 (r+1))∧w=w')) (w:World) :
  Calls Tryz.prog 128 #[.agg #[.int .u64 hi,.int .u64 lo,.int .i64 e,.bool rest],.bool away] w fun e w'=>e = .returned (.float .f64 (r+(away&&(rest||decide (L≠0)||xH)).toNat))∧Below w.heap.size w w':=by
 have L0:=Lib.hid hl0
 have L1:=Lib.hid hl1
 have HX:=Lib.hid hX
 have HK:=Lib.hid hK
 clear hl0 hl1 hX hK
 have hz := Tryz.bits_LeadingZeros64 (hi:Int)
 have h0:(0:Int)≤hi:=by omega
 have hm:(hi:Int)≤18446744073709551615:=by omega
 have x1:(0:Int)≤n:=by omega
 have x2:(n:Int)≤63:=by omega
 have HZ:=Lib.hid hz
 have HN:=Lib.hid hn
 have HM:=Lib.hid hm
 have HL:=Lib.hid hL
 clear hz hn b1 hm hL
 go_enter Tryz.func128,Tryz.ntmps128
 go_wp2_with (go_at_call 102;refine (HZ.out _ h0 HM.out).mono ?_;rintro e w' ⟨rfl,rfl⟩;rw [Int.toNat_natCast,HN.out])
 have k0:=cell_regrown (w:=(World.alloc w (.cells #[.int .u64 hi,.int .u64 lo,.int .i64 e,.bool rest] 99))) (a:=⟨w.heap.size,0,none⟩) (v := .int .u64 hi) (by simp [go_sem])
 have k1:=cell_regrown (w:=(World.alloc w (.cells #[.int .u64 hi,.int .u64 lo,.int .i64 e,.bool rest] 99))) (a:=⟨w.heap.size,1,none⟩) (v := .int .u64 lo) (by simp [go_sem])
 have k2:=cell_regrown (w:=(World.alloc w (.cells #[.int .u64 hi,.int .u64 lo,.int .i64 e,.bool rest] 99))) (a:=⟨w.heap.size,2,none⟩) (v := .int .i64 e) (by simp [go_sem])
 have k3:=cell_regrown (w:=(World.alloc w (.cells #[.int .u64 hi,.int .u64 lo,.int .i64 e,.bool rest] 99))) (a:=⟨w.heap.size,3,none⟩) (v := .bool rest) (by simp [go_sem])
 refine wp_region_below_tail 11 (by kernel_rfl) (by kernel_rfl) ?_
 simp only [List.take_succ_cons,List.take_zero,List.drop_succ_cons,List.drop_zero]
 repeat (go_big_quiet_step ((fail)))
 refine wpQuiet_nil (fun w2 hbw2 => ?_)
 have f0:=RowKit.Below.cells hbw2 (b:=w.heap.size) (o:=0) (v := .int .u64 hi) (by simp [go_sem])
 have g0:=RowKit.Below.froz hbw2 (b:=w.heap.size) (o:=0) (v := .int .u64 hi) (by simp [go_sem]) (by simp [go_sem])
 have f1:=RowKit.Below.cells hbw2 (b:=w.heap.size) (o:=1) (v := .int .u64 lo) (by simp [go_sem])
 have g1:=RowKit.Below.froz hbw2 (b:=w.heap.size) (o:=1) (v := .int .u64 lo) (by simp [go_sem]) (by simp [go_sem])
 have f2:=RowKit.Below.cells hbw2 (b:=w.heap.size) (o:=2) (v := .int .i64 e) (by simp [go_sem])
 have g2:=RowKit.Below.froz hbw2 (b:=w.heap.size) (o:=2) (v := .int .i64 e) (by simp [go_sem]) (by simp [go_sem])
 have f3:=RowKit.Below.cells hbw2 (b:=w.heap.size) (o:=3) (v := .bool rest) (by simp [go_sem])
 have g3:=RowKit.Below.froz hbw2 (b:=w.heap.size) (o:=3) (v := .bool rest) (by simp [go_sem]) (by simp [go_sem])
 clear k0 k1 k2 k3
 iterate 3 go_step
 have hL:=HL.out
 obtain ⟨w3,hw3⟩ : ∃ w3,w3=w2.setCell ⟨w.heap.size,0,none⟩ (.int .u64 H):=⟨_,rfl⟩
 rw [←hw3]
 have F0:w3.cell? ⟨w.heap.size,0,none⟩=some (.int .u64 H):=by rw [hw3];simp [go_sem,f0]
 have F1:w3.cell? ⟨w.heap.size,1,none⟩=some (.int .u64 lo):=by rw [hw3];simp [go_sem,f0,f1]
 have F2:w3.cell? ⟨w.heap.size,2,none⟩=some (.int .i64 e):=by rw [hw3];simp [go_sem,f0,f2]
 have F3:w3.cell? ⟨w.heap.size,3,none⟩=some (.bool rest):=by rw [hw3];simp [go_sem,f0,f3]
 have G1:w3.frozen? ⟨w.heap.size,1,none⟩=false:=by rw [hw3];simp [go_sem,g1]
 have B2:=below_alloc hbw2
 have B3:Below w.heap.size w w3:=by rw [hw3];go_grown
 clear hw3 f0 f1 f2 f3 g0 g1 g2 g3 hbw2 B2 hH HL
 go_wp2_with (first|(go_at_call 140;(first|(with_reducible refine (L0.out _).mono ?_)|(with_reducible refine (L1.out _).mono ?_));rintro e w' ⟨rfl,rfl⟩)|(rw [HK.out]))
 all_goals go_ret
 all_goals refine ⟨?_,by go_grown⟩
 all_goals refine ret_w ?_
 all_goals have hX:=HX.out
 all_goals have hK:=HK.out
 all_goals clear HZ HN HM L0 L1 HX HK F0 F1 F2 F3 G1 B3 hL hhi
 all_goals simp_all
end Go.Proofs.YteephgpefhodnaaGreat
namespace Go.Proofs.YteephgpefhodnaaGreat
open Go.RowKit Go.Sort Go.Fl
set_option linter.unusedSimpArgs false
set_option linter.unusedVariables false
set_option maxHeartbeats 2000000 in
theorem numberz_over (hi:Nat) (e:Int) (rest away:Bool) (n H:Nat) (hn:64-(Lib.bitLen hi:Int)=n) (hn2:n≤63) (hhi:((hi:Int)==0)=false) (b1:hi<2^64) (b2:H<2^64) (e1 : -5000≤e) (e2:e≤5000) (hH:bits BinOp.or IntKind.u64 (IntKind.u64.wrap ((hi:Int)*2^n)) (0)=(H:Int)) (c1:1023<e-64+127-n) (w:World) :
  Calls Tryz.prog 128 #[.agg #[.int .u64 0,.int .u64 hi,.int .i64 e,.bool rest],.bool away] w fun e w'=>e = .returned (.float .f64 (if away=true then INF else INF-1))∧Below w.heap.size w w':=by
 have hz := Tryz.bits_LeadingZeros64 (hi:Int)
 have h0:(0:Int)≤hi:=by omega
 have hm:(hi:Int)≤18446744073709551615:=by omega
 have x1:(0:Int)≤n:=by omega
 have x2:(n:Int)≤63:=by omega
 have HZ:=Lib.hid hz
 have HN:=Lib.hid hn
 have HM:=Lib.hid hm
 clear hz hn b1 hm
 go_enter Tryz.func128,Tryz.ntmps128
 go_wp2_with (go_at_call 102;refine (HZ.out _ h0 HM.out).mono ?_;rintro e w' ⟨rfl,rfl⟩;rw [Int.toNat_natCast,HN.out])
 have k0:=cell_regrown (w:=(World.alloc w (.cells #[.int .u64 hi,.int .u64 0,.int .i64 (e-64),.bool rest] 99))) (a:=⟨w.heap.size,0,none⟩) (v := .int .u64 hi) (by simp [go_sem])
 have k1:=cell_regrown (w:=(World.alloc w (.cells #[.int .u64 hi,.int .u64 0,.int .i64 (e-64),.bool rest] 99))) (a:=⟨w.heap.size,1,none⟩) (v := .int .u64 0) (by simp [go_sem])
 have k2:=cell_regrown (w:=(World.alloc w (.cells #[.int .u64 hi,.int .u64 0,.int .i64 (e-64),.bool rest] 99))) (a:=⟨w.heap.size,2,none⟩) (v := .int .i64 (e-64)) (by simp [go_sem])
 have k3:=cell_regrown (w:=(World.alloc w (.cells #[.int .u64 hi,.int .u64 0,.int .i64 (e-64),.bool rest] 99))) (a:=⟨w.heap.size,3,none⟩) (v := .bool rest) (by simp [go_sem])
 refine wp_region_below_tail 11 (by kernel_rfl) (by kernel_rfl) ?_
 simp only [List.take_succ_cons,List.take_zero,List.drop_succ_cons,List.drop_zero]
 repeat (go_big_quiet_step ((fail)))
 refine wpQuiet_nil (fun w2 hbw2 => ?_)
 have f0:=RowKit.Below.cells hbw2 (b:=w.heap.size) (o:=0) (v := .int .u64 hi) (by simp [go_sem])
 have g0:=RowKit.Below.froz hbw2 (b:=w.heap.size) (o:=0) (v := .int .u64 hi) (by simp [go_sem]) (by simp [go_sem])
 have f1:=RowKit.Below.cells hbw2 (b:=w.heap.size) (o:=1) (v := .int .u64 0) (by simp [go_sem])
 have g1:=RowKit.Below.froz hbw2 (b:=w.heap.size) (o:=1) (v := .int .u64 0) (by simp [go_sem]) (by simp [go_sem])
 have f2:=RowKit.Below.cells hbw2 (b:=w.heap.size) (o:=2) (v := .int .i64 (e-64)) (by simp [go_sem])
 have g2:=RowKit.Below.froz hbw2 (b:=w.heap.size) (o:=2) (v := .int .i64 (e-64)) (by simp [go_sem]) (by simp [go_sem])
 have f3:=RowKit.Below.cells hbw2 (b:=w.heap.size) (o:=3) (v := .bool rest) (by simp [go_sem])
 have g3:=RowKit.Below.froz hbw2 (b:=w.heap.size) (o:=3) (v := .bool rest) (by simp [go_sem]) (by simp [go_sem])
 clear k0 k1 k2 k3
 iterate 3 go_step
 obtain ⟨w3,hw3⟩ : ∃ w3,w3=w2.setCell ⟨w.heap.size,0,none⟩ (.int .u64 H):=⟨_,rfl⟩
 rw [←hw3]
 have F0:w3.cell? ⟨w.heap.size,0,none⟩=some (.int .u64 H):=by rw [hw3];simp [go_sem,f0]
 have F1:w3.cell? ⟨w.heap.size,1,none⟩=some (.int .u64 0):=by rw [hw3];simp [go_sem,f0,f1]
 have F2:w3.cell? ⟨w.heap.size,2,none⟩=some (.int .i64 (e-64)):=by rw [hw3];simp [go_sem,f0,f2]
 have F3:w3.cell? ⟨w.heap.size,3,none⟩=some (.bool rest):=by rw [hw3];simp [go_sem,f0,f3]
 have G1:w3.frozen? ⟨w.heap.size,1,none⟩=false:=by rw [hw3];simp [go_sem,g1]
 have B2:=below_alloc hbw2
 have B3:Below w.heap.size w w3:=by rw [hw3];go_grown
 clear hw3 f0 f1 f2 f3 g0 g1 g2 g3 hbw2 B2 hH
 go_wp2_with (go_at_call 73;refine (mathinf_pos _ (by omega) _).mono ?_;rintro e w' ⟨rfl,rfl⟩)
 all_goals go_ret
 all_goals refine ⟨?_,by go_grown⟩
 all_goals first|rfl|(rw [if_pos (by assumption)];rfl)|(rw [if_neg (by assumption)];rfl)
set_option maxHeartbeats 2000000 in
theorem numberz_n53 (hi:Nat) (e:Int) (rest away:Bool) (n H:Nat) (hn:64-(Lib.bitLen hi:Int)=n) (hn2:n≤63) (hhi:((hi:Int)==0)=false) (b1:hi<2^64) (b2:H<2^64) (e1 : -5000≤e) (e2:e≤5000) (hH:bits BinOp.or IntKind.u64 (IntKind.u64.wrap ((hi:Int)*2^n)) (0)=(H:Int)) (c1 : -1022≤e-64+127-n) (c2:e-64+127-n≤1023) (xH:Bool) (hX:(IntKind.u64.wrap ((H:Int)*9007199254740992) != 0)=xH) (r:Nat) (hl0 : ∀ w:World,Calls Tryz.prog 140 #[.float .f64 (floatOfInt FloatKind.f64 ((H:Int) / 2048)),.int .i64 (e-64+127-n-53+1)] w fun e w'=>e = .returned (.float .f64 r)∧w=w') (hl1 : ∀ w:World,Calls Tryz.prog 140 #[.float .f64 (floatOfInt FloatKind.f64 ((H:Int) / 2048+1)),.int .i64 (e-64+127-n-53+1)] w fun e w'=>e = .returned (.float .f64 (r+1))∧w=w') (w:World) :
  Calls Tryz.prog 128 #[.agg #[.int .u64 0,.int .u64 hi,.int .i64 e,.bool rest],.bool away] w fun e w'=>e = .returned (.float .f64 (r+(away&&(rest||xH)).toNat))∧Below w.heap.size w w':=by
 have L0:=Lib.hid hl0
 have L1:=Lib.hid hl1
 have HX:=Lib.hid hX
 clear hl0 hl1 hX
 have hz := Tryz.bits_LeadingZeros64 (hi:Int)
 have h0:(0:Int)≤hi:=by omega
 have hm:(hi:Int)≤18446744073709551615:=by omega
 have x1:(0:Int)≤n:=by omega
 have x2:(n:Int)≤63:=by omega
 have HZ:=Lib.hid hz
 have HN:=Lib.hid hn
 have HM:=Lib.hid hm
 clear hz hn b1 hm
 go_enter Tryz.func128,Tryz.ntmps128
 go_wp2_with (go_at_call 102;refine (HZ.out _ h0 HM.out).mono ?_;rintro e w' ⟨rfl,rfl⟩;rw [Int.toNat_natCast,HN.out])
 have k0:=cell_regrown (w:=(World.alloc w (.cells #[.int .u64 hi,.int .u64 0,.int .i64 (e-64),.bool rest] 99))) (a:=⟨w.heap.size,0,none⟩) (v := .int .u64 hi) (by simp [go_sem])
 have k1:=cell_regrown (w:=(World.alloc w (.cells #[.int .u64 hi,.int .u64 0,.int .i64 (e-64),.bool rest] 99))) (a:=⟨w.heap.size,1,none⟩) (v := .int .u64 0) (by simp [go_sem])
 have k2:=cell_regrown (w:=(World.alloc w (.cells #[.int .u64 hi,.int .u64 0,.int .i64 (e-64),.bool rest] 99))) (a:=⟨w.heap.size,2,none⟩) (v := .int .i64 (e-64)) (by simp [go_sem])
 have k3:=cell_regrown (w:=(World.alloc w (.cells #[.int .u64 hi,.int .u64 0,.int .i64 (e-64),.bool rest] 99))) (a:=⟨w.heap.size,3,none⟩) (v := .bool rest) (by simp [go_sem])
 refine wp_region_below_tail 11 (by kernel_rfl) (by kernel_rfl) ?_
 simp only [List.take_succ_cons,List.take_zero,List.drop_succ_cons,List.drop_zero]
 repeat (go_big_quiet_step ((fail)))
 refine wpQuiet_nil (fun w2 hbw2 => ?_)
 have f0:=RowKit.Below.cells hbw2 (b:=w.heap.size) (o:=0) (v := .int .u64 hi) (by simp [go_sem])
 have g0:=RowKit.Below.froz hbw2 (b:=w.heap.size) (o:=0) (v := .int .u64 hi) (by simp [go_sem]) (by simp [go_sem])
 have f1:=RowKit.Below.cells hbw2 (b:=w.heap.size) (o:=1) (v := .int .u64 0) (by simp [go_sem])
 have g1:=RowKit.Below.froz hbw2 (b:=w.heap.size) (o:=1) (v := .int .u64 0) (by simp [go_sem]) (by simp [go_sem])
 have f2:=RowKit.Below.cells hbw2 (b:=w.heap.size) (o:=2) (v := .int .i64 (e-64)) (by simp [go_sem])
 have g2:=RowKit.Below.froz hbw2 (b:=w.heap.size) (o:=2) (v := .int .i64 (e-64)) (by simp [go_sem]) (by simp [go_sem])
 have f3:=RowKit.Below.cells hbw2 (b:=w.heap.size) (o:=3) (v := .bool rest) (by simp [go_sem])
 have g3:=RowKit.Below.froz hbw2 (b:=w.heap.size) (o:=3) (v := .bool rest) (by simp [go_sem]) (by simp [go_sem])
 clear k0 k1 k2 k3
 iterate 3 go_step
 obtain ⟨w3,hw3⟩ : ∃ w3,w3=w2.setCell ⟨w.heap.size,0,none⟩ (.int .u64 H):=⟨_,rfl⟩
 rw [←hw3]
 have F0:w3.cell? ⟨w.heap.size,0,none⟩=some (.int .u64 H):=by rw [hw3];simp [go_sem,f0]
 have F1:w3.cell? ⟨w.heap.size,1,none⟩=some (.int .u64 0):=by rw [hw3];simp [go_sem,f0,f1]
 have F2:w3.cell? ⟨w.heap.size,2,none⟩=some (.int .i64 (e-64)):=by rw [hw3];simp [go_sem,f0,f2]
 have F3:w3.cell? ⟨w.heap.size,3,none⟩=some (.bool rest):=by rw [hw3];simp [go_sem,f0,f3]
 have G1:w3.frozen? ⟨w.heap.size,1,none⟩=false:=by rw [hw3];simp [go_sem,g1]
 have B2:=below_alloc hbw2
 have B3:Below w.heap.size w w3:=by rw [hw3];go_grown
 clear hw3 f0 f1 f2 f3 g0 g1 g2 g3 hbw2 B2 hH
 go_wp2_with (go_at_call 140;(first|(with_reducible refine (L0.out _).mono ?_)|(with_reducible refine (L1.out _).mono ?_));rintro e w' ⟨rfl,rfl⟩)
 all_goals go_ret
 all_goals refine ⟨?_,by go_grown⟩
 all_goals refine ret_w ?_
 all_goals have hX:=HX.out
 all_goals clear HZ HN HM L0 L1 HX F0 F1 F2 F3 G1 B3 hhi
 all_goals simp_all
set_option maxHeartbeats 2000000 in
theorem numberz_sub (hi:Nat) (e:Int) (rest away:Bool) (n H:Nat) (hn:64-(Lib.bitLen hi:Int)=n) (hn2:n≤63) (hhi:((hi:Int)==0)=false) (b1:hi<2^64) (b2:H<2^64) (e1 : -5000≤e) (e2:e≤5000) (hH:bits BinOp.or IntKind.u64 (IntKind.u64.wrap ((hi:Int)*2^n)) (0)=(H:Int)) (c1:e-64+127-n < -1022) (c2:0<e-64+127-n - -1074+1) (xH:Bool) (hK:((max 0 (e-64+127 - ↑n+1074+1))==0)=false) (hX:(IntKind.u64.wrap ((H:Int)*2^(max 0 (e-64+127 - ↑n+1074+1)).toNat) != 0)=xH) (r:Nat) (hl0:(∀ w:World,Calls Tryz.prog 140 #[.float .f64 (floatOfInt FloatKind.f64 ((H:Int) / 2^(64-(max 0 (e-64+127 - ↑n+1074+1))).toNat)),.int .i64 (e-64+127-n-(max 0 (e-64+127 - ↑n+1074+1))+1)] w fun e w'=>e = .returned (.float .f64 r)∧w=w')) (hl1:(∀ w:World,Calls Tryz.prog 140 #[.float .f64 (floatOfInt FloatKind.f64 (IntKind.u64.wrap ((H:Int) / 2^(64-(max 0 (e-64+127 - ↑n+1074+1))).toNat+1))),.int .i64 (e-64+127-n-(max 0 (e-64+127 - ↑n+1074+1))+1)] w fun e w'=>e = .returned (.float .f64 (r+1))∧w=w')) (w:World) :
  Calls Tryz.prog 128 #[.agg #[.int .u64 0,.int .u64 hi,.int .i64 e,.bool rest],.bool away] w fun e w'=>e = .returned (.float .f64 (r+(away&&(rest||xH)).toNat))∧Below w.heap.size w w':=by
 have L0:=Lib.hid hl0
 have L1:=Lib.hid hl1
 have HX:=Lib.hid hX
 have HK:=Lib.hid hK
 clear hl0 hl1 hX hK
 have hz := Tryz.bits_LeadingZeros64 (hi:Int)
 have h0:(0:Int)≤hi:=by omega
 have hm:(hi:Int)≤18446744073709551615:=by omega
 have x1:(0:Int)≤n:=by omega
 have x2:(n:Int)≤63:=by omega
 have HZ:=Lib.hid hz
 have HN:=Lib.hid hn
 have HM:=Lib.hid hm
 clear hz hn b1 hm
 go_enter Tryz.func128,Tryz.ntmps128
 go_wp2_with (go_at_call 102;refine (HZ.out _ h0 HM.out).mono ?_;rintro e w' ⟨rfl,rfl⟩;rw [Int.toNat_natCast,HN.out])
 have k0:=cell_regrown (w:=(World.alloc w (.cells #[.int .u64 hi,.int .u64 0,.int .i64 (e-64),.bool rest] 99))) (a:=⟨w.heap.size,0,none⟩) (v := .int .u64 hi) (by simp [go_sem])
 have k1:=cell_regrown (w:=(World.alloc w (.cells #[.int .u64 hi,.int .u64 0,.int .i64 (e-64),.bool rest] 99))) (a:=⟨w.heap.size,1,none⟩) (v := .int .u64 0) (by simp [go_sem])
 have k2:=cell_regrown (w:=(World.alloc w (.cells #[.int .u64 hi,.int .u64 0,.int .i64 (e-64),.bool rest] 99))) (a:=⟨w.heap.size,2,none⟩) (v := .int .i64 (e-64)) (by simp [go_sem])
 have k3:=cell_regrown (w:=(World.alloc w (.cells #[.int .u64 hi,.int .u64 0,.int .i64 (e-64),.bool rest] 99))) (a:=⟨w.heap.size,3,none⟩) (v := .bool rest) (by simp [go_sem])
 refine wp_region_below_tail 11 (by kernel_rfl) (by kernel_rfl) ?_
 simp only [List.take_succ_cons,List.take_zero,List.drop_succ_cons,List.drop_zero]
 repeat (go_big_quiet_step ((fail)))
 refine wpQuiet_nil (fun w2 hbw2 => ?_)
 have f0:=RowKit.Below.cells hbw2 (b:=w.heap.size) (o:=0) (v := .int .u64 hi) (by simp [go_sem])
 have g0:=RowKit.Below.froz hbw2 (b:=w.heap.size) (o:=0) (v := .int .u64 hi) (by simp [go_sem]) (by simp [go_sem])
 have f1:=RowKit.Below.cells hbw2 (b:=w.heap.size) (o:=1) (v := .int .u64 0) (by simp [go_sem])
 have g1:=RowKit.Below.froz hbw2 (b:=w.heap.size) (o:=1) (v := .int .u64 0) (by simp [go_sem]) (by simp [go_sem])
 have f2:=RowKit.Below.cells hbw2 (b:=w.heap.size) (o:=2) (v := .int .i64 (e-64)) (by simp [go_sem])
 have g2:=RowKit.Below.froz hbw2 (b:=w.heap.size) (o:=2) (v := .int .i64 (e-64)) (by simp [go_sem]) (by simp [go_sem])
 have f3:=RowKit.Below.cells hbw2 (b:=w.heap.size) (o:=3) (v := .bool rest) (by simp [go_sem])
 have g3:=RowKit.Below.froz hbw2 (b:=w.heap.size) (o:=3) (v := .bool rest) (by simp [go_sem]) (by simp [go_sem])
 clear k0 k1 k2 k3
 iterate 3 go_step
 obtain ⟨w3,hw3⟩ : ∃ w3,w3=w2.setCell ⟨w.heap.size,0,none⟩ (.int .u64 H):=⟨_,rfl⟩
 rw [←hw3]
 have F0:w3.cell? ⟨w.heap.size,0,none⟩=some (.int .u64 H):=by rw [hw3];simp [go_sem,f0]
 have F1:w3.cell? ⟨w.heap.size,1,none⟩=some (.int .u64 0):=by rw [hw3];simp [go_sem,f0,f1]
 have F2:w3.cell? ⟨w.heap.size,2,none⟩=some (.int .i64 (e-64)):=by rw [hw3];simp [go_sem,f0,f2]
 have F3:w3.cell? ⟨w.heap.size,3,none⟩=some (.bool rest):=by rw [hw3];simp [go_sem,f0,f3]
 have G1:w3.frozen? ⟨w.heap.size,1,none⟩=false:=by rw [hw3];simp [go_sem,g1]
 have B2:=below_alloc hbw2
 have B3:Below w.heap.size w w3:=by rw [hw3];go_grown
 clear hw3 f0 f1 f2 f3 g0 g1 g2 g3 hbw2 B2 hH
 go_wp2_with (first|(go_at_call 140;(first|(with_reducible refine (L0.out _).mono ?_)|(with_reducible refine (L1.out _).mono ?_));rintro e w' ⟨rfl,rfl⟩)|(rw [HK.out]))
 all_goals go_ret
 all_goals refine ⟨?_,by go_grown⟩
 all_goals refine ret_w ?_
 all_goals have hX:=HX.out
 all_goals have hK:=HK.out
 all_goals clear HZ HN HM L0 L1 HX HK F0 F1 F2 F3 G1 B3 hhi
 all_goals simp_all
set_option maxHeartbeats 2000000 in
theorem numberz_k0 (hi:Nat) (e:Int) (rest away:Bool) (n H:Nat) (hn:64-(Lib.bitLen hi:Int)=n) (hn2:n≤63) (hhi:((hi:Int)==0)=false) (b1:hi<2^64) (b2:H<2^64) (e1 : -5000≤e) (e2:e≤5000) (hH:bits BinOp.or IntKind.u64 (IntKind.u64.wrap ((hi:Int)*2^n)) (0)=(H:Int)) (c1:e-64+127-n < -1022) (c2:e-64+127-n - -1074+1≤0) (xH:Bool) (hK:((max 0 (e-64+127 - ↑n+1074+1))==0)=true) (hX:(IntKind.u64.wrap ((H:Int)*2^(max 0 (e-64+127 - ↑n+1074+1)).toNat) != 0)=xH) (r:Nat) (hl0:(∀ w:World,Calls Tryz.prog 140 #[.float .f64 (floatOfInt FloatKind.f64 ((H:Int) / 2^(64-(max 0 (e-64+127 - ↑n+1074+1))).toNat)),.int .i64 (-1074)] w fun e w'=>e = .returned (.float .f64 r)∧w=w')) (hl1:(∀ w:World,Calls Tryz.prog 140 #[.float .f64 (floatOfInt FloatKind.f64 (IntKind.u64.wrap ((H:Int) / 2^(64-(max 0 (e-64+127 - ↑n+1074+1))).toNat+1))),.int .i64 (-1074)] w fun e w'=>e = .returned (.float .f64 (r+1))∧w=w')) (w:World) :
  Calls Tryz.prog 128 #[.agg #[.int .u64 0,.int .u64 hi,.int .i64 e,.bool rest],.bool away] w fun e w'=>e = .returned (.float .f64 (r+(away&&(rest||xH)).toNat))∧Below w.heap.size w w':=by
 have L0:=Lib.hid hl0
 have L1:=Lib.hid hl1
 have HX:=Lib.hid hX
 have HK:=Lib.hid hK
 clear hl0 hl1 hX hK
 have hz := Tryz.bits_LeadingZeros64 (hi:Int)
 have h0:(0:Int)≤hi:=by omega
 have hm:(hi:Int)≤18446744073709551615:=by omega
 have x1:(0:Int)≤n:=by omega
 have x2:(n:Int)≤63:=by omega
 have HZ:=Lib.hid hz
 have HN:=Lib.hid hn
 have HM:=Lib.hid hm
 clear hz hn b1 hm
 go_enter Tryz.func128,Tryz.ntmps128
 go_wp2_with (go_at_call 102;refine (HZ.out _ h0 HM.out).mono ?_;rintro e w' ⟨rfl,rfl⟩;rw [Int.toNat_natCast,HN.out])
 have k0:=cell_regrown (w:=(World.alloc w (.cells #[.int .u64 hi,.int .u64 0,.int .i64 (e-64),.bool rest] 99))) (a:=⟨w.heap.size,0,none⟩) (v := .int .u64 hi) (by simp [go_sem])
 have k1:=cell_regrown (w:=(World.alloc w (.cells #[.int .u64 hi,.int .u64 0,.int .i64 (e-64),.bool rest] 99))) (a:=⟨w.heap.size,1,none⟩) (v := .int .u64 0) (by simp [go_sem])
 have k2:=cell_regrown (w:=(World.alloc w (.cells #[.int .u64 hi,.int .u64 0,.int .i64 (e-64),.bool rest] 99))) (a:=⟨w.heap.size,2,none⟩) (v := .int .i64 (e-64)) (by simp [go_sem])
 have k3:=cell_regrown (w:=(World.alloc w (.cells #[.int .u64 hi,.int .u64 0,.int .i64 (e-64),.bool rest] 99))) (a:=⟨w.heap.size,3,none⟩) (v := .bool rest) (by simp [go_sem])
 refine wp_region_below_tail 11 (by kernel_rfl) (by kernel_rfl) ?_
 simp only [List.take_succ_cons,List.take_zero,List.drop_succ_cons,List.drop_zero]
 repeat (go_big_quiet_step ((fail)))
 refine wpQuiet_nil (fun w2 hbw2 => ?_)
 have f0:=RowKit.Below.cells hbw2 (b:=w.heap.size) (o:=0) (v := .int .u64 hi) (by simp [go_sem])
 have g0:=RowKit.Below.froz hbw2 (b:=w.heap.size) (o:=0) (v := .int .u64 hi) (by simp [go_sem]) (by simp [go_sem])
 have f1:=RowKit.Below.cells hbw2 (b:=w.heap.size) (o:=1) (v := .int .u64 0) (by simp [go_sem])
 have g1:=RowKit.Below.froz hbw2 (b:=w.heap.size) (o:=1) (v := .int .u64 0) (by simp [go_sem]) (by simp [go_sem])
 have f2:=RowKit.Below.cells hbw2 (b:=w.heap.size) (o:=2) (v := .int .i64 (e-64)) (by simp [go_sem])
 have g2:=RowKit.Below.froz hbw2 (b:=w.heap.size) (o:=2) (v := .int .i64 (e-64)) (by simp [go_sem]) (by simp [go_sem])
 have f3:=RowKit.Below.cells hbw2 (b:=w.heap.size) (o:=3) (v := .bool rest) (by simp [go_sem])
 have g3:=RowKit.Below.froz hbw2 (b:=w.heap.size) (o:=3) (v := .bool rest) (by simp [go_sem]) (by simp [go_sem])
 clear k0 k1 k2 k3
 iterate 3 go_step
 obtain ⟨w3,hw3⟩ : ∃ w3,w3=w2.setCell ⟨w.heap.size,0,none⟩ (.int .u64 H):=⟨_,rfl⟩
 rw [←hw3]
 have F0:w3.cell? ⟨w.heap.size,0,none⟩=some (.int .u64 H):=by rw [hw3];simp [go_sem,f0]
 have F1:w3.cell? ⟨w.heap.size,1,none⟩=some (.int .u64 0):=by rw [hw3];simp [go_sem,f0,f1]
 have F2:w3.cell? ⟨w.heap.size,2,none⟩=some (.int .i64 (e-64)):=by rw [hw3];simp [go_sem,f0,f2]
 have F3:w3.cell? ⟨w.heap.size,3,none⟩=some (.bool rest):=by rw [hw3];simp [go_sem,f0,f3]
 have G1:w3.frozen? ⟨w.heap.size,1,none⟩=false:=by rw [hw3];simp [go_sem,g1]
 have B2:=below_alloc hbw2
 have B3:Below w.heap.size w w3:=by rw [hw3];go_grown
 clear hw3 f0 f1 f2 f3 g0 g1 g2 g3 hbw2 B2 hH
 go_wp2_with (first|(go_at_call 140;(first|(with_reducible refine (L0.out _).mono ?_)|(with_reducible refine (L1.out _).mono ?_));rintro e w' ⟨rfl,rfl⟩)|(rw [HK.out]))
 all_goals go_ret
 all_goals refine ⟨?_,by go_grown⟩
 all_goals refine ret_w ?_
 all_goals have hX:=HX.out
 all_goals have hK:=HK.out
 all_goals clear HZ HN HM L0 L1 HX HK F0 F1 F2 F3 G1 B3 hhi
 all_goals simp_all
end Go.Proofs.YteephgpefhodnaaGreat
