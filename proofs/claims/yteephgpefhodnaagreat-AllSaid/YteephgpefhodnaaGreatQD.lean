/- The document's Round: near. The document's Round: lower, upper. The document's Round. The document's Round is the program's. -/
import Derived.Test.YteephgpefhodnaaGreatBB
import Derived.Lib.Hide
import Derived.Test.YteephgpefhodnaaGreatA3
import Derived.Test.YteephgpefhodnaaGreatFC
import Derived.LoopTactic
import Derived.Test.YteephgpefhodnaaGreatQC
namespace Go.Proofs.YteephgpefhodnaaGreat
open Go.RowKit Go.Sort Go.Fl
set_option linter.unusedSimpArgs false
set_option linter.unusedVariables false
open Ieee in
theorem write_any (s:Bool) (m:Nat) (place:Int) : ¬nan (double.write (.number s m place))∧Wd (double.write (.number s m place)):=by
 unfold Format.write
 simp only
 by_cases h:m=0
 ·subst h
  rw [write_zero]
  obtain ⟨h1,h2,h3⟩:=word_key (s:=s) (r:=0) (by omega)
  exact ⟨by unfold nan;rw [h1];omega,h3⟩
 ·obtain ⟨h1,_,h3,h4⟩:=write_near s m place (by omega)
  exact ⟨h1,h3⟩
theorem mag_zero {x:Nat} (h:mag x=0):key x=0:=by
 have:=mag_pl x
 rw [h,Nat.zero_mul] at this
 have hr:rung x=0:=by
  refine Nat.eq_zero_of_not_pos fun hp => ?_
  have:=M_lt hp
  rw [M_zero] at this
  omega
 unfold key
 rw [hr]
 cases neg x<;>rfl
open Ieee in
theorem div_some {x y:Nat} (hx:fin x) (hy:fin y) (h0:key y≠0) : ∃ r,FloatKind.f64.format.div x y=some r ∧ ¬nan r∧Wd r:=by
 rw [fmt]
 unfold Format.div
 rw [read_fin hx,read_fin hy]
 unfold Datum.quotient
 simp only
 rw [if_neg (fun e=>h0 (mag_zero e))]
 exact ⟨_,rfl,write_any _ _ _⟩
open Ieee in
theorem sqrt_some {x:Nat} (hx:fin x) (h0:0≤key x) : ∃ r,FloatKind.f64.format.sqrt x=some r ∧ ¬nan r∧Wd r:=by
 rw [fmt]
 unfold Format.sqrt
 rw [read_fin hx]
 unfold Datum.root
 simp only
 by_cases hm:mag x=0
 ·rw [if_pos hm]
  exact ⟨_,rfl,write_any _ _ _⟩
 ·rw [if_neg hm]
  have hn:neg x=false:=by
   cases h:neg x
   ·rfl
   ·exfalso
    have hr:0<rung x:=Nat.pos_of_ne_zero (fun e=>hm (by unfold mag;rw [if_pos (by omega)];exact e))
    unfold key at h0
    rw [if_pos h] at h0
    omega
  rw [hn]
  simp only [Bool.false_eq_true,if_false]
  exact ⟨_,rfl,write_any _ _ _⟩
theorem most_key:key 9218868437227405311=PI-1:=by decide
theorem most_nn : ¬nan 9218868437227405311:=by decide
theorem least_key:key 18442240474082181119 = -(PI-1):=by decide
theorem least_nn : ¬nan 18442240474082181119:=by decide
theorem near_6 (x y:Nat) (hx:fin x) (hy:fin y) (wx:Wd x) (wy:Wd y) : ∃ c:Nat,fin c∧Wd c ∧ ∀ w,Calls Tryz.prog 80 #[.int .i64 6,.float .f64 x,.float .f64 y] w fun e w'=>e = .returned (.float .f64 c)∧w=w':=by
 have k1:=most_key
 have k2:=most_nn
 have k3:=least_key
 have k4:=least_nn
 have hP:=PI_pos
 obtain ⟨r0,a1,a2,a3,a4⟩:=add_fin hx hy
 have ha:=fun (w:World) (t:TypeId)=>run_float_arith (P := Tryz.prog) w .add t .f64 x y r0 a1
 clear a4
 obtain ⟨r,hr,nr,wr⟩ : ∃ r,r=r0 ∧ ¬nan r∧Wd r:=⟨_,rfl,a2,a3⟩
 subst hr
 have rk:=Rg_key nr
 by_cases h1:PI-1<key r
 ·refine ⟨9218868437227405311,by decide,by unfold Wd;omega,fun w => ?_⟩
  go_enter Tryz.func80,Tryz.ntmps80
  go_wp2
  go_ret
  exact ⟨rfl,rfl⟩
 ·by_cases h2:key r < -(PI-1)
  ·refine ⟨18442240474082181119,by decide,by unfold Wd;omega,fun w => ?_⟩
   go_enter Tryz.func80,Tryz.ntmps80
   go_wp2
   go_ret
   exact ⟨rfl,rfl⟩
  ·refine ⟨r,by rw [fin_key];have hPI:PI=(INF:Int):=rfl;omega,wr,fun w => ?_⟩
   go_enter Tryz.func80,Tryz.ntmps80
   go_wp2
   go_ret
   exact ⟨rfl,rfl⟩
theorem near_7 (x y:Nat) (hx:fin x) (hy:fin y) (wx:Wd x) (wy:Wd y) : ∃ c:Nat,fin c∧Wd c ∧ ∀ w,Calls Tryz.prog 80 #[.int .i64 7,.float .f64 x,.float .f64 y] w fun e w'=>e = .returned (.float .f64 c)∧w=w':=by
 have k1:=most_key
 have k2:=most_nn
 have k3:=least_key
 have k4:=least_nn
 have hP:=PI_pos
 obtain ⟨r0,a1,a2,a3,a4⟩:=add_fin hx hy
 have ha:=fun (w:World) (t:TypeId)=>run_float_arith (P := Tryz.prog) w .add t .f64 x y r0 a1
 clear a4
 obtain ⟨r,hr,nr,wr,_⟩:=sub_fin hx hy
 have hb:=fun (w:World) (t:TypeId)=>run_float_arith (P := Tryz.prog) w .sub t .f64 x y r hr
 have rk:=Rg_key nr
 by_cases h1:PI-1<key r
 ·refine ⟨9218868437227405311,by decide,by unfold Wd;omega,fun w => ?_⟩
  go_enter Tryz.func80,Tryz.ntmps80
  go_wp2
  go_ret
  exact ⟨rfl,rfl⟩
 ·by_cases h2:key r < -(PI-1)
  ·refine ⟨18442240474082181119,by decide,by unfold Wd;omega,fun w => ?_⟩
   go_enter Tryz.func80,Tryz.ntmps80
   go_wp2
   go_ret
   exact ⟨rfl,rfl⟩
  ·refine ⟨r,by rw [fin_key];have hPI:PI=(INF:Int):=rfl;omega,wr,fun w => ?_⟩
   go_enter Tryz.func80,Tryz.ntmps80
   go_wp2
   go_ret
   exact ⟨rfl,rfl⟩
theorem near_8 (x y:Nat) (hx:fin x) (hy:fin y) (wx:Wd x) (wy:Wd y) : ∃ c:Nat,fin c∧Wd c ∧ ∀ w,Calls Tryz.prog 80 #[.int .i64 8,.float .f64 x,.float .f64 y] w fun e w'=>e = .returned (.float .f64 c)∧w=w':=by
 have k1:=most_key
 have k2:=most_nn
 have k3:=least_key
 have k4:=least_nn
 have hP:=PI_pos
 obtain ⟨r0,a1,a2,a3,a4⟩:=add_fin hx hy
 have ha:=fun (w:World) (t:TypeId)=>run_float_arith (P := Tryz.prog) w .add t .f64 x y r0 a1
 clear a4
 obtain ⟨r,hr,nr,wr,_⟩:=mul_fin hx hy
 have hb:=fun (w:World) (t:TypeId)=>run_float_arith (P := Tryz.prog) w .mul t .f64 x y r hr
 have rk:=Rg_key nr
 by_cases h1:PI-1<key r
 ·refine ⟨9218868437227405311,by decide,by unfold Wd;omega,fun w => ?_⟩
  go_enter Tryz.func80,Tryz.ntmps80
  go_wp2
  go_ret
  exact ⟨rfl,rfl⟩
 ·by_cases h2:key r < -(PI-1)
  ·refine ⟨18442240474082181119,by decide,by unfold Wd;omega,fun w => ?_⟩
   go_enter Tryz.func80,Tryz.ntmps80
   go_wp2
   go_ret
   exact ⟨rfl,rfl⟩
  ·refine ⟨r,by rw [fin_key];have hPI:PI=(INF:Int):=rfl;omega,wr,fun w => ?_⟩
   go_enter Tryz.func80,Tryz.ntmps80
   go_wp2
   go_ret
   exact ⟨rfl,rfl⟩
theorem near_9 (x y:Nat) (hx:fin x) (hy:fin y) (wx:Wd x) (wy:Wd y) (h0:key y≠0) : ∃ c:Nat,fin c∧Wd c ∧ ∀ w,Calls Tryz.prog 80 #[.int .i64 9,.float .f64 x,.float .f64 y] w fun e w'=>e = .returned (.float .f64 c)∧w=w':=by
 have k1:=most_key
 have k2:=most_nn
 have k3:=least_key
 have k4:=least_nn
 have hP:=PI_pos
 obtain ⟨r0,a1,a2,a3,a4⟩:=add_fin hx hy
 have ha:=fun (w:World) (t:TypeId)=>run_float_arith (P := Tryz.prog) w .add t .f64 x y r0 a1
 clear a4
 obtain ⟨r,hr,nr,wr⟩:=div_some hx hy h0
 have hb:=fun (w:World) (t:TypeId)=>run_float_arith (P := Tryz.prog) w .quo t .f64 x y r hr
 have rk:=Rg_key nr
 by_cases h1:PI-1<key r
 ·refine ⟨9218868437227405311,by decide,by unfold Wd;omega,fun w => ?_⟩
  go_enter Tryz.func80,Tryz.ntmps80
  go_wp2
  go_ret
  exact ⟨rfl,rfl⟩
 ·by_cases h2:key r < -(PI-1)
  ·refine ⟨18442240474082181119,by decide,by unfold Wd;omega,fun w => ?_⟩
   go_enter Tryz.func80,Tryz.ntmps80
   go_wp2
   go_ret
   exact ⟨rfl,rfl⟩
  ·refine ⟨r,by rw [fin_key];have hPI:PI=(INF:Int):=rfl;omega,wr,fun w => ?_⟩
   go_enter Tryz.func80,Tryz.ntmps80
   go_wp2
   go_ret
   exact ⟨rfl,rfl⟩
theorem near_3 (x y:Nat) (hx:fin x) (hy:fin y) (wx:Wd x) (wy:Wd y) (h0:0≤key x) : ∃ c:Nat,fin c∧Wd c ∧ ∀ w,Calls Tryz.prog 80 #[.int .i64 3,.float .f64 x,.float .f64 y] w fun e w'=>e = .returned (.float .f64 c)∧w=w':=by
 have k1:=most_key
 have k2:=most_nn
 have k3:=least_key
 have k4:=least_nn
 have hP:=PI_pos
 obtain ⟨r0,a1,a2,a3,a4⟩:=add_fin hx hy
 have ha:=fun (w:World) (t:TypeId)=>run_float_arith (P := Tryz.prog) w .add t .f64 x y r0 a1
 clear a4
 obtain ⟨r,hr,nr,wr⟩:=sqrt_some hx h0
 have SQ:=Lib.hid (fun w=>mathsqrt_any x r hr w)
 have rk:=Rg_key nr
 by_cases h1:PI-1<key r
 ·refine ⟨9218868437227405311,by decide,by unfold Wd;omega,fun w => ?_⟩
  go_enter Tryz.func80,Tryz.ntmps80
  go_wp2_with (go_at_call 104;refine (SQ.out _).mono ?_;rintro e w' ⟨rfl,rfl⟩)
  go_ret
  exact ⟨rfl,rfl⟩
 ·by_cases h2:key r < -(PI-1)
  ·refine ⟨18442240474082181119,by decide,by unfold Wd;omega,fun w => ?_⟩
   go_enter Tryz.func80,Tryz.ntmps80
   go_wp2_with (go_at_call 104;refine (SQ.out _).mono ?_;rintro e w' ⟨rfl,rfl⟩)
   go_ret
   exact ⟨rfl,rfl⟩
  ·refine ⟨r,by rw [fin_key];have hPI:PI=(INF:Int):=rfl;omega,wr,fun w => ?_⟩
   go_enter Tryz.func80,Tryz.ntmps80
   go_wp2_with (go_at_call 104;refine (SQ.out _).mono ?_;rintro e w' ⟨rfl,rfl⟩)
   go_ret
   exact ⟨rfl,rfl⟩
end Go.Proofs.YteephgpefhodnaaGreat
namespace Go.Proofs.YteephgpefhodnaaGreat
open Go.RowKit Go.Sort Go.Fl
set_option linter.unusedSimpArgs false
set_option linter.unusedVariables false
theorem refsub_self {x:Nat} (hx:fin x) : ∃ r,FloatKind.f64.format.sub x x=some r ∧ ¬nan r∧Wd r∧key r=0:=by
 obtain ⟨r,h1,h2,h3,h4⟩:=sub_fin hx hx
 exact ⟨r,h1,h2,h3,near_exact h4 (by decide) (by decide) (by rw [V_zero];omega)⟩
open Ieee in
theorem refsub_no {x:Nat} (hx : ¬fin x):FloatKind.f64.format.sub x x=none:=by
 rw [fmt]
 unfold Format.sub
 by_cases h:nan x
 ·obtain ⟨t,ht⟩:=read_nan h;rw [ht];rfl
 ·have hi:rung x=INF:=by unfold nan at h;unfold fin at hx;omega
  rw [read_inf hi]
  cases neg x<;>rfl
theorem reffin_yes (x:Nat) (hx:fin x) (w:World) :
  Calls Tryz.prog 45 #[.float .f64 x] w fun e w'=>e = .returned (.bool true)∧Below w.heap.size w w':=by
 obtain ⟨r,h1,h2,h3,h4⟩:=refsub_self hx
 have hs:=fun (w:World) (t:TypeId)=>run_float_arith (P := Tryz.prog) w .sub t .f64 x x r h1
 go_enter Tryz.func45,Tryz.ntmps45
 go_wp2
 go_ret
 exact ⟨rfl,Below.refl _ _⟩
theorem reffin_no (x:Nat) (hx : ¬fin x) (w:World) :
  Calls Tryz.prog 45 #[.float .f64 x] w fun e w'=>e = .returned (.bool false)∧Below w.heap.size w w':=by
 have hs : ∀ (w:World) (t:TypeId),(binOp .sub t (.float .f64 x) (.float .f64 x)).run Tryz.prog w = .ok (.float .f64 (nanw w x x)) w.drew:=fun w t=>by
  simp [binOp,Op.floatArith,refsub_no hx,Question.forced,nanw]
 go_enter Tryz.func45,Tryz.ntmps45
 go_wp2
 go_ret
 exact ⟨rfl,⟨rfl,rfl,rfl,Nat.le_refl _,fun _ _=>rfl⟩⟩
theorem sgn_nn {z:Int} (h:0≤z):0≤z.sign:=Int.sign_nonneg_iff.2 h
theorem sgn_ng {z:Int} (h : ¬0≤z):z.sign<0:=by rw [Int.sign_eq_neg_one_of_neg (by omega)];omega
theorem sgn_np {z:Int} (h:z≤0):z.sign≤0:=by
 rcases Int.lt_trichotomy z 0 with g|g|g
 ·rw [Int.sign_eq_neg_one_of_neg g];omega
 ·rw [g];decide
 ·omega
theorem sgn_ps {z:Int} (h : ¬z≤0):0<z.sign:=by rw [Int.sign_eq_one_of_pos (by omega)];omega
theorem c_down {x:Nat} (hx:fin x) (wx:Wd x) (w:World):Calls Tryz.prog 15 #[.float .f64 x] w fun e w'=>e = .returned (.float .f64 (ofKey (key x-1)))∧w=w':=by
 have hn : ¬nan x:=by unfold nan;unfold fin at hx;omega
 have hk:=fin_key.1 hx
 have hPI:PI=(INF:Int):=rfl
 have:=refdown_any x hn wx w
 rw [show downK (key x)=key x-1 by unfold downK upK;rw [if_pos (by omega)];omega] at this
 exact this
theorem c_up {x:Nat} (hx:fin x) (wx:Wd x) (w:World):Calls Tryz.prog 14 #[.float .f64 x] w fun e w'=>e = .returned (.float .f64 (ofKey (key x+1)))∧w=w':=by
 have hn : ¬nan x:=by unfold nan;unfold fin at hx;omega
 have hk:=fin_key.1 hx
 have hPI:PI=(INF:Int):=rfl
 have:=refup_any x hn wx w
 rw [show upK (key x)=key x+1 by unfold upK;rw [if_pos (by omega)]] at this
 exact this
def fkey:Value→Int
 | .float _ x=>key x
 | _=>0
set_option maxRecDepth 4000 in
set_option maxHeartbeats 4000000 in
theorem lower_any (o:Int) (x y:Nat) (cc:Int→Int) (hcut:Cut cc) (hnear : ∃ c:Nat,fin c∧Wd c ∧ ∀ w,Calls Tryz.prog 80 #[.int .i64 o,.float .f64 x,.float .f64 y] w fun e w'=>e = .returned (.float .f64 c)∧w=w')
  (hb0 : ∀ u:Nat,fin u→Wd u → ∀ w,Calls Tryz.prog 81 #[.int .i64 o,.float .f64 x,.float .f64 y,.float .f64 u] w fun e w'=>e = .returned (.int .i64 (cc (key u)).sign)∧Below w.heap.size w w') (w:World) :
  Calls Tryz.prog 48 #[.int .i64 o,.float .f64 x,.float .f64 y] w fun e w'=>e = .returned (.float .f64 (ofKey (rnd false cc)))∧Below w.heap.size w w':=by
 have hP:=PI_pos
 have kk1:=most_key
 have kk2:=most_nn
 have kk3:=least_key
 have kk4:=least_nn
 have hbey:=Lib.hid hb0
 obtain ⟨c0,f0,wd0,nr⟩:=hnear
 have NR:=Lib.hid nr
 have n0 : ¬nan c0:=by unfold nan;unfold fin at f0;omega
 have hk0 : -PI<key c0∧key c0<PI:=fin_key.1 f0
 clear nr hb0
 go_enter Tryz.func48,Tryz.ntmps48
 go_wp2_with (go_at_call 80;refine (NR.out _).mono ?_;rintro e w' ⟨rfl,rfl⟩)
 go_loopw [7] (fun cv wr => ∃ cw:Nat,cv = .float .f64 cw ∧ ¬nan cw∧Wd cw∧key cw<PI∧(key cw = -PI→cc (-PI+1)<0)∧Below w.heap.size w wr) (fun cv _=>(fkey cv+PI).toNat)
 case atStart=>exact ⟨c0,rfl,n0,wd0,by omega,fun h=>by omega,Below.refl _ _⟩
 case round =>
  obtain ⟨cw,rfl,hn,hw,hr,hb,hB⟩:=hrel
  have hlo:=(Rg_key hn).1
  have hhi:=(Rg_key hn).2
  by_cases hf:fin cw
  ·have hk : -PI<key cw∧key cw<PI:=fin_key.1 hf
   have FY:=Lib.hid (fun w=>reffin_yes cw hf w)
   have ST:=Lib.hid (fun w=>c_down hf hw w)
   have hbu:=hbey.out _ hf hw
   obtain ⟨S,hS⟩ : ∃ S,S=(cc (key cw)).sign:=⟨_,rfl⟩
   rw [←hS] at hbu
   have BB:=Lib.hid hbu
   clear hbu
   by_cases hc:0≤cc (key cw)
   ·have hs:0≤S:=by rw [hS];exact sgn_nn hc
    have Hc:=Lib.hid hc
    have Hb:=Lib.hid hb
    clear hb hS hc
    go_wp2_with (first|(go_at_call 45;refine (FY.out _).mono ?_;rintro e wf ⟨rfl,hbf⟩;replace hB:=below_step hB hB.size hbf;clear hbf)|(go_at_call 81;refine (BB.out _).mono ?_;rintro e wg ⟨rfl,hbg⟩;replace hB:=below_step hB hB.size hbg;clear hbg))
    go_loopw [7] (fun cv wr => ∃ cw:Nat,cv = .float .f64 cw ∧ ¬nan cw∧Wd cw∧key cw<PI∧(key cw = -PI→cc (-PI+1)<0)∧(key cw ≠ -PI→0≤cc (key cw))∧Below w.heap.size w wr) (fun cv _=>(PI-fkey cv).toNat)
    case atStart=>exact ⟨cw,rfl,hn,hw,hr,Hb.out,fun _=>Hc.out,hB⟩
    case round =>
     obtain ⟨cw,rfl,hn,hw,hr,hb,hg,hB⟩:=hrel
     have hlo:=(Rg_key hn).1
     have hhi:=(Rg_key hn).2
     have RES:=Lib.hid (plain_any cw hn hw)
     by_cases hf:fin cw
     ·have hk : -PI<key cw∧key cw<PI:=fin_key.1 hf
      have FY:=Lib.hid (fun w=>reffin_yes cw hf w)
      by_cases hm:key cw<PI-1
      ·have ST:=Lib.hid (fun w=>c_up hf hw w)
       have ru:Rg (key cw+1):=⟨by omega,by omega⟩
       have fu:fin (ofKey (key cw+1)):=fin_ofKey (by omega) (by omega)
       have hbu:=hbey.out _ fu (ofKey_lt ru)
       rw [key_ofKey ru] at hbu
       obtain ⟨S,hS⟩ : ∃ S,S=(cc (key cw+1)).sign:=⟨_,rfl⟩
       rw [←hS] at hbu
       have BB:=Lib.hid hbu
       clear hbu
       by_cases hc:0≤cc (key cw+1)
       ·have hs:0≤S:=by rw [hS];exact sgn_nn hc
        have Hc:=Lib.hid hc
        have Hb:=Lib.hid hb
        clear hb hg hS hc
        go_wp2_with (first|(go_at_call 45;refine (FY.out _).mono ?_;rintro e wf ⟨rfl,hbf⟩;replace hB:=below_step hB hB.size hbf;clear hbf)|(go_at_call 14;refine (ST.out _).mono ?_;rintro e w' ⟨rfl,rfl⟩)|(go_at_call 81;refine (BB.out _).mono ?_;rintro e wg ⟨rfl,hbg⟩;replace hB:=below_step hB hB.size hbg;clear hbg))
        go_roundw
        case rel=>exact ⟨_,rfl,not_nan_ofKey ru,ofKey_lt ru,by rw [key_ofKey ru];omega,fun h=>by rw [key_ofKey ru] at h;omega,fun _=>by rw [key_ofKey ru];exact Hc.out,hB⟩
        case measure=>simp only [fkey,key_ofKey ru];omega
       ·have hs:S<0:=by rw [hS];exact sgn_ng hc
        have hR:Rnd false cc (key cw):=⟨by omega,by omega,fun h=>hg h,fun h=>by omega⟩
        clear hb hg hS hc
        go_wp2_with (first|(go_at_call 45;refine (FY.out _).mono ?_;rintro e wf ⟨rfl,hbf⟩;replace hB:=below_step hB hB.size hbf;clear hbf)|(go_at_call 14;refine (ST.out _).mono ?_;rintro e w' ⟨rfl,rfl⟩)|(go_at_call 81;refine (BB.out _).mono ?_;rintro e wg ⟨rfl,hbg⟩;replace hB:=below_step hB hB.size hbg;clear hbg)|(go_at_call 43;refine (RES.out _).mono ?_;rintro e w' ⟨rfl,rfl⟩))
        go_ret
        exact ⟨by rw [rnd_eq hcut hR];first|rfl|(rw [hke];rfl),hB⟩
      ·have hR:Rnd false cc (key cw):=⟨by omega,by omega,fun h=>hg (by omega),fun h=>by omega⟩
       clear hb hg
       go_wp2_with (first|(go_at_call 45;refine (FY.out _).mono ?_;rintro e wf ⟨rfl,hbf⟩;replace hB:=below_step hB hB.size hbf;clear hbf)|(go_at_call 43;refine (RES.out _).mono ?_;rintro e w' ⟨rfl,rfl⟩))
       go_ret
       exact ⟨by rw [rnd_eq hcut hR];first|rfl|(rw [hke];rfl),hB⟩
     ·have hke:key cw = -PI:=by have hnf : ¬(-PI<key cw∧key cw<PI):=fun h=>hf (fin_key.2 h);omega
      have FY:=Lib.hid (fun w=>reffin_no cw hf w)
      have hbb:=hb hke
      have hR:Rnd false cc (key cw):=by
       rw [hke]
       exact ⟨by omega,by omega,fun h=>by omega,fun h=>by simpa using hbb⟩
      clear hb hg hbb
      go_wp2_with (first|(go_at_call 45;refine (FY.out _).mono ?_;rintro e wf ⟨rfl,hbf⟩;replace hB:=below_step hB hB.size hbf;clear hbf)|(go_at_call 43;refine (RES.out _).mono ?_;rintro e w' ⟨rfl,rfl⟩))
      go_ret
      exact ⟨by rw [rnd_eq hcut hR];first|rfl|(rw [hke];rfl),hB⟩
   ·have hs:S<0:=by rw [hS];exact sgn_ng hc
    have ru:Rg (key cw-1):=⟨by omega,by omega⟩
    have Hc:=Lib.hid hc
    clear hb hS hc
    go_wp2_with (first|(go_at_call 45;refine (FY.out _).mono ?_;rintro e wf ⟨rfl,hbf⟩;replace hB:=below_step hB hB.size hbf;clear hbf)|(go_at_call 81;refine (BB.out _).mono ?_;rintro e wg ⟨rfl,hbg⟩;replace hB:=below_step hB hB.size hbg;clear hbg)|(go_at_call 15;refine (ST.out _).mono ?_;rintro e w' ⟨rfl,rfl⟩))
    go_roundw
    case rel=>exact ⟨_,rfl,not_nan_ofKey ru,ofKey_lt ru,by rw [key_ofKey ru];omega,fun h=>by rw [key_ofKey ru] at h;have e:key cw = -PI+1:=(by omega);have:=Hc.out;rw [e] at this;omega,hB⟩
    case measure=>simp only [fkey,key_ofKey ru];omega
  ·have hke:key cw = -PI:=by have hnf : ¬(-PI<key cw∧key cw<PI):=fun h=>hf (fin_key.2 h);omega
   have FY:=Lib.hid (fun w=>reffin_no cw hf w)
   have Hb:=Lib.hid hb
   clear hb
   go_wp2_with (go_at_call 45;refine (FY.out _).mono ?_;rintro e wf ⟨rfl,hbf⟩;replace hB:=below_step hB hB.size hbf;clear hbf)
   go_loopw [7] (fun cv wr => ∃ cw:Nat,cv = .float .f64 cw ∧ ¬nan cw∧Wd cw∧key cw<PI∧(key cw = -PI→cc (-PI+1)<0)∧(key cw ≠ -PI→0≤cc (key cw))∧Below w.heap.size w wr) (fun cv _=>(PI-fkey cv).toNat)
   case atStart=>exact ⟨cw,rfl,hn,hw,hr,Hb.out,fun h=>absurd hke h,hB⟩
   case round =>
    obtain ⟨cw,rfl,hn,hw,hr,hb,hg,hB⟩:=hrel
    have hlo:=(Rg_key hn).1
    have hhi:=(Rg_key hn).2
    have RES:=Lib.hid (plain_any cw hn hw)
    by_cases hf:fin cw
    ·have hk : -PI<key cw∧key cw<PI:=fin_key.1 hf
     have FY:=Lib.hid (fun w=>reffin_yes cw hf w)
     by_cases hm:key cw<PI-1
     ·have ST:=Lib.hid (fun w=>c_up hf hw w)
      have ru:Rg (key cw+1):=⟨by omega,by omega⟩
      have fu:fin (ofKey (key cw+1)):=fin_ofKey (by omega) (by omega)
      have hbu:=hbey.out _ fu (ofKey_lt ru)
      rw [key_ofKey ru] at hbu
      obtain ⟨S,hS⟩ : ∃ S,S=(cc (key cw+1)).sign:=⟨_,rfl⟩
      rw [←hS] at hbu
      have BB:=Lib.hid hbu
      clear hbu
      by_cases hc:0≤cc (key cw+1)
      ·have hs:0≤S:=by rw [hS];exact sgn_nn hc
       have Hc:=Lib.hid hc
       have Hb:=Lib.hid hb
       clear hb hg hS hc
       go_wp2_with (first|(go_at_call 45;refine (FY.out _).mono ?_;rintro e wf ⟨rfl,hbf⟩;replace hB:=below_step hB hB.size hbf;clear hbf)|(go_at_call 14;refine (ST.out _).mono ?_;rintro e w' ⟨rfl,rfl⟩)|(go_at_call 81;refine (BB.out _).mono ?_;rintro e wg ⟨rfl,hbg⟩;replace hB:=below_step hB hB.size hbg;clear hbg))
       go_roundw
       case rel=>exact ⟨_,rfl,not_nan_ofKey ru,ofKey_lt ru,by rw [key_ofKey ru];omega,fun h=>by rw [key_ofKey ru] at h;omega,fun _=>by rw [key_ofKey ru];exact Hc.out,hB⟩
       case measure=>simp only [fkey,key_ofKey ru];omega
      ·have hs:S<0:=by rw [hS];exact sgn_ng hc
       have hR:Rnd false cc (key cw):=⟨by omega,by omega,fun h=>hg h,fun h=>by omega⟩
       clear hb hg hS hc
       go_wp2_with (first|(go_at_call 45;refine (FY.out _).mono ?_;rintro e wf ⟨rfl,hbf⟩;replace hB:=below_step hB hB.size hbf;clear hbf)|(go_at_call 14;refine (ST.out _).mono ?_;rintro e w' ⟨rfl,rfl⟩)|(go_at_call 81;refine (BB.out _).mono ?_;rintro e wg ⟨rfl,hbg⟩;replace hB:=below_step hB hB.size hbg;clear hbg)|(go_at_call 43;refine (RES.out _).mono ?_;rintro e w' ⟨rfl,rfl⟩))
       go_ret
       exact ⟨by rw [rnd_eq hcut hR];first|rfl|(rw [hke];rfl),hB⟩
     ·have hR:Rnd false cc (key cw):=⟨by omega,by omega,fun h=>hg (by omega),fun h=>by omega⟩
      clear hb hg
      go_wp2_with (first|(go_at_call 45;refine (FY.out _).mono ?_;rintro e wf ⟨rfl,hbf⟩;replace hB:=below_step hB hB.size hbf;clear hbf)|(go_at_call 43;refine (RES.out _).mono ?_;rintro e w' ⟨rfl,rfl⟩))
      go_ret
      exact ⟨by rw [rnd_eq hcut hR];first|rfl|(rw [hke];rfl),hB⟩
    ·have hke:key cw = -PI:=by have hnf : ¬(-PI<key cw∧key cw<PI):=fun h=>hf (fin_key.2 h);omega
     have FY:=Lib.hid (fun w=>reffin_no cw hf w)
     have hbb:=hb hke
     have hR:Rnd false cc (key cw):=by
      rw [hke]
      exact ⟨by omega,by omega,fun h=>by omega,fun h=>by simpa using hbb⟩
     clear hb hg hbb
     go_wp2_with (first|(go_at_call 45;refine (FY.out _).mono ?_;rintro e wf ⟨rfl,hbf⟩;replace hB:=below_step hB hB.size hbf;clear hbf)|(go_at_call 43;refine (RES.out _).mono ?_;rintro e w' ⟨rfl,rfl⟩))
     go_ret
     exact ⟨by rw [rnd_eq hcut hR];first|rfl|(rw [hke];rfl),hB⟩
set_option maxRecDepth 4000 in
set_option maxHeartbeats 4000000 in
theorem upper_any (o:Int) (x y:Nat) (cc:Int→Int) (hcut:Cut cc) (hnear : ∃ c:Nat,fin c∧Wd c ∧ ∀ w,Calls Tryz.prog 80 #[.int .i64 o,.float .f64 x,.float .f64 y] w fun e w'=>e = .returned (.float .f64 c)∧w=w')
  (hb0 : ∀ u:Nat,fin u→Wd u → ∀ w,Calls Tryz.prog 81 #[.int .i64 o,.float .f64 x,.float .f64 y,.float .f64 u] w fun e w'=>e = .returned (.int .i64 (cc (key u)).sign)∧Below w.heap.size w w') (w:World) :
  Calls Tryz.prog 47 #[.int .i64 o,.float .f64 x,.float .f64 y] w fun e w'=>e = .returned (.float .f64 (ofKey (rnd true cc)))∧Below w.heap.size w w':=by
 have hP:=PI_pos
 have kk1:=most_key
 have kk2:=most_nn
 have kk3:=least_key
 have kk4:=least_nn
 have hbey:=Lib.hid hb0
 obtain ⟨c0,f0,wd0,nr⟩:=hnear
 have NR:=Lib.hid nr
 have n0 : ¬nan c0:=by unfold nan;unfold fin at f0;omega
 have hk0 : -PI<key c0∧key c0<PI:=fin_key.1 f0
 clear nr hb0
 go_enter Tryz.func47,Tryz.ntmps47
 go_wp2_with (go_at_call 80;refine (NR.out _).mono ?_;rintro e w' ⟨rfl,rfl⟩)
 go_loopw [7] (fun cv wr => ∃ cw:Nat,cv = .float .f64 cw ∧ ¬nan cw∧Wd cw ∧ -PI<key cw∧(key cw=PI→0<cc (PI-1))∧Below w.heap.size w wr) (fun cv _=>(PI-fkey cv).toNat)
 case atStart=>exact ⟨c0,rfl,n0,wd0,by omega,fun h=>by omega,Below.refl _ _⟩
 case round =>
  obtain ⟨cw,rfl,hn,hw,hr,hb,hB⟩:=hrel
  have hlo:=(Rg_key hn).1
  have hhi:=(Rg_key hn).2
  by_cases hf:fin cw
  ·have hk : -PI<key cw∧key cw<PI:=fin_key.1 hf
   have FY:=Lib.hid (fun w=>reffin_yes cw hf w)
   have ST:=Lib.hid (fun w=>c_up hf hw w)
   have hbu:=hbey.out _ hf hw
   obtain ⟨S,hS⟩ : ∃ S,S=(cc (key cw)).sign:=⟨_,rfl⟩
   rw [←hS] at hbu
   have BB:=Lib.hid hbu
   clear hbu
   by_cases hc:cc (key cw)≤0
   ·have hs:S≤0:=by rw [hS];exact sgn_np hc
    have Hc:=Lib.hid hc
    have Hb:=Lib.hid hb
    clear hb hS hc
    go_wp2_with (first|(go_at_call 45;refine (FY.out _).mono ?_;rintro e wf ⟨rfl,hbf⟩;replace hB:=below_step hB hB.size hbf;clear hbf)|(go_at_call 81;refine (BB.out _).mono ?_;rintro e wg ⟨rfl,hbg⟩;replace hB:=below_step hB hB.size hbg;clear hbg))
    go_loopw [7] (fun cv wr => ∃ cw:Nat,cv = .float .f64 cw ∧ ¬nan cw∧Wd cw ∧ -PI<key cw∧(key cw=PI→0<cc (PI-1))∧(key cw≠PI→cc (key cw)≤0)∧Below w.heap.size w wr) (fun cv _=>(fkey cv+PI).toNat)
    case atStart=>exact ⟨cw,rfl,hn,hw,hr,Hb.out,fun _=>Hc.out,hB⟩
    case round =>
     obtain ⟨cw,rfl,hn,hw,hr,hb,hg,hB⟩:=hrel
     have hlo:=(Rg_key hn).1
     have hhi:=(Rg_key hn).2
     have RES:=Lib.hid (plain_any cw hn hw)
     by_cases hf:fin cw
     ·have hk : -PI<key cw∧key cw<PI:=fin_key.1 hf
      have FY:=Lib.hid (fun w=>reffin_yes cw hf w)
      by_cases hm : -(PI-1)<key cw
      ·have ST:=Lib.hid (fun w=>c_down hf hw w)
       have ru:Rg (key cw-1):=⟨by omega,by omega⟩
       have fu:fin (ofKey (key cw-1)):=fin_ofKey (by omega) (by omega)
       have hbu:=hbey.out _ fu (ofKey_lt ru)
       rw [key_ofKey ru] at hbu
       obtain ⟨S,hS⟩ : ∃ S,S=(cc (key cw-1)).sign:=⟨_,rfl⟩
       rw [←hS] at hbu
       have BB:=Lib.hid hbu
       clear hbu
       by_cases hc:cc (key cw-1)≤0
       ·have hs:S≤0:=by rw [hS];exact sgn_np hc
        have Hc:=Lib.hid hc
        have Hb:=Lib.hid hb
        clear hb hg hS hc
        go_wp2_with (first|(go_at_call 45;refine (FY.out _).mono ?_;rintro e wf ⟨rfl,hbf⟩;replace hB:=below_step hB hB.size hbf;clear hbf)|(go_at_call 15;refine (ST.out _).mono ?_;rintro e w' ⟨rfl,rfl⟩)|(go_at_call 81;refine (BB.out _).mono ?_;rintro e wg ⟨rfl,hbg⟩;replace hB:=below_step hB hB.size hbg;clear hbg))
        go_roundw
        case rel=>exact ⟨_,rfl,not_nan_ofKey ru,ofKey_lt ru,by rw [key_ofKey ru];omega,fun h=>by rw [key_ofKey ru] at h;omega,fun _=>by rw [key_ofKey ru];exact Hc.out,hB⟩
        case measure=>simp only [fkey,key_ofKey ru];omega
       ·have hs:0<S:=by rw [hS];exact sgn_ps hc
        have hR:Rnd true cc (key cw):=⟨by omega,by omega,fun h=>hg (by omega),fun h=>by omega⟩
        clear hb hg hS hc
        go_wp2_with (first|(go_at_call 45;refine (FY.out _).mono ?_;rintro e wf ⟨rfl,hbf⟩;replace hB:=below_step hB hB.size hbf;clear hbf)|(go_at_call 15;refine (ST.out _).mono ?_;rintro e w' ⟨rfl,rfl⟩)|(go_at_call 81;refine (BB.out _).mono ?_;rintro e wg ⟨rfl,hbg⟩;replace hB:=below_step hB hB.size hbg;clear hbg)|(go_at_call 43;refine (RES.out _).mono ?_;rintro e w' ⟨rfl,rfl⟩))
        go_ret
        exact ⟨by rw [rnd_eq hcut hR];first|rfl|(rw [hke];rfl),hB⟩
      ·have hR:Rnd true cc (key cw):=⟨by omega,by omega,fun h=>hg (by omega),fun h=>by omega⟩
       clear hb hg
       go_wp2_with (first|(go_at_call 45;refine (FY.out _).mono ?_;rintro e wf ⟨rfl,hbf⟩;replace hB:=below_step hB hB.size hbf;clear hbf)|(go_at_call 43;refine (RES.out _).mono ?_;rintro e w' ⟨rfl,rfl⟩))
       go_ret
       exact ⟨by rw [rnd_eq hcut hR];first|rfl|(rw [hke];rfl),hB⟩
     ·have hke:key cw=PI:=by have hnf : ¬(-PI<key cw∧key cw<PI):=fun h=>hf (fin_key.2 h);omega
      have FY:=Lib.hid (fun w=>reffin_no cw hf w)
      have hbb:=hb hke
      have hR:Rnd true cc (key cw):=by
       rw [hke]
       exact ⟨by omega,by omega,fun h=>by omega,fun h=>by simpa using hbb⟩
      clear hb hg hbb
      go_wp2_with (first|(go_at_call 45;refine (FY.out _).mono ?_;rintro e wf ⟨rfl,hbf⟩;replace hB:=below_step hB hB.size hbf;clear hbf)|(go_at_call 43;refine (RES.out _).mono ?_;rintro e w' ⟨rfl,rfl⟩))
      go_ret
      exact ⟨by rw [rnd_eq hcut hR];first|rfl|(rw [hke];rfl),hB⟩
   ·have hs:0<S:=by rw [hS];exact sgn_ps hc
    have ru:Rg (key cw+1):=⟨by omega,by omega⟩
    have Hc:=Lib.hid hc
    clear hb hS hc
    go_wp2_with (first|(go_at_call 45;refine (FY.out _).mono ?_;rintro e wf ⟨rfl,hbf⟩;replace hB:=below_step hB hB.size hbf;clear hbf)|(go_at_call 81;refine (BB.out _).mono ?_;rintro e wg ⟨rfl,hbg⟩;replace hB:=below_step hB hB.size hbg;clear hbg)|(go_at_call 14;refine (ST.out _).mono ?_;rintro e w' ⟨rfl,rfl⟩))
    go_roundw
    case rel=>exact ⟨_,rfl,not_nan_ofKey ru,ofKey_lt ru,by rw [key_ofKey ru];omega,fun h=>by rw [key_ofKey ru] at h;have e:key cw=PI-1:=(by omega);have:=Hc.out;rw [e] at this;omega,hB⟩
    case measure=>simp only [fkey,key_ofKey ru];omega
  ·have hke:key cw=PI:=by have hnf : ¬(-PI<key cw∧key cw<PI):=fun h=>hf (fin_key.2 h);omega
   have FY:=Lib.hid (fun w=>reffin_no cw hf w)
   have Hb:=Lib.hid hb
   clear hb
   go_wp2_with (go_at_call 45;refine (FY.out _).mono ?_;rintro e wf ⟨rfl,hbf⟩;replace hB:=below_step hB hB.size hbf;clear hbf)
   go_loopw [7] (fun cv wr => ∃ cw:Nat,cv = .float .f64 cw ∧ ¬nan cw∧Wd cw ∧ -PI<key cw∧(key cw=PI→0<cc (PI-1))∧(key cw≠PI→cc (key cw)≤0)∧Below w.heap.size w wr) (fun cv _=>(fkey cv+PI).toNat)
   case atStart=>exact ⟨cw,rfl,hn,hw,hr,Hb.out,fun h=>absurd hke h,hB⟩
   case round =>
    obtain ⟨cw,rfl,hn,hw,hr,hb,hg,hB⟩:=hrel
    have hlo:=(Rg_key hn).1
    have hhi:=(Rg_key hn).2
    have RES:=Lib.hid (plain_any cw hn hw)
    by_cases hf:fin cw
    ·have hk : -PI<key cw∧key cw<PI:=fin_key.1 hf
     have FY:=Lib.hid (fun w=>reffin_yes cw hf w)
     by_cases hm : -(PI-1)<key cw
     ·have ST:=Lib.hid (fun w=>c_down hf hw w)
      have ru:Rg (key cw-1):=⟨by omega,by omega⟩
      have fu:fin (ofKey (key cw-1)):=fin_ofKey (by omega) (by omega)
      have hbu:=hbey.out _ fu (ofKey_lt ru)
      rw [key_ofKey ru] at hbu
      obtain ⟨S,hS⟩ : ∃ S,S=(cc (key cw-1)).sign:=⟨_,rfl⟩
      rw [←hS] at hbu
      have BB:=Lib.hid hbu
      clear hbu
      by_cases hc:cc (key cw-1)≤0
      ·have hs:S≤0:=by rw [hS];exact sgn_np hc
       have Hc:=Lib.hid hc
       have Hb:=Lib.hid hb
       clear hb hg hS hc
       go_wp2_with (first|(go_at_call 45;refine (FY.out _).mono ?_;rintro e wf ⟨rfl,hbf⟩;replace hB:=below_step hB hB.size hbf;clear hbf)|(go_at_call 15;refine (ST.out _).mono ?_;rintro e w' ⟨rfl,rfl⟩)|(go_at_call 81;refine (BB.out _).mono ?_;rintro e wg ⟨rfl,hbg⟩;replace hB:=below_step hB hB.size hbg;clear hbg))
       go_roundw
       case rel=>exact ⟨_,rfl,not_nan_ofKey ru,ofKey_lt ru,by rw [key_ofKey ru];omega,fun h=>by rw [key_ofKey ru] at h;omega,fun _=>by rw [key_ofKey ru];exact Hc.out,hB⟩
       case measure=>simp only [fkey,key_ofKey ru];omega
      ·have hs:0<S:=by rw [hS];exact sgn_ps hc
       have hR:Rnd true cc (key cw):=⟨by omega,by omega,fun h=>hg (by omega),fun h=>by omega⟩
       clear hb hg hS hc
       go_wp2_with (first|(go_at_call 45;refine (FY.out _).mono ?_;rintro e wf ⟨rfl,hbf⟩;replace hB:=below_step hB hB.size hbf;clear hbf)|(go_at_call 15;refine (ST.out _).mono ?_;rintro e w' ⟨rfl,rfl⟩)|(go_at_call 81;refine (BB.out _).mono ?_;rintro e wg ⟨rfl,hbg⟩;replace hB:=below_step hB hB.size hbg;clear hbg)|(go_at_call 43;refine (RES.out _).mono ?_;rintro e w' ⟨rfl,rfl⟩))
       go_ret
       exact ⟨by rw [rnd_eq hcut hR];first|rfl|(rw [hke];rfl),hB⟩
     ·have hR:Rnd true cc (key cw):=⟨by omega,by omega,fun h=>hg (by omega),fun h=>by omega⟩
      clear hb hg
      go_wp2_with (first|(go_at_call 45;refine (FY.out _).mono ?_;rintro e wf ⟨rfl,hbf⟩;replace hB:=below_step hB hB.size hbf;clear hbf)|(go_at_call 43;refine (RES.out _).mono ?_;rintro e w' ⟨rfl,rfl⟩))
      go_ret
      exact ⟨by rw [rnd_eq hcut hR];first|rfl|(rw [hke];rfl),hB⟩
    ·have hke:key cw=PI:=by have hnf : ¬(-PI<key cw∧key cw<PI):=fun h=>hf (fin_key.2 h);omega
     have FY:=Lib.hid (fun w=>reffin_no cw hf w)
     have hbb:=hb hke
     have hR:Rnd true cc (key cw):=by
      rw [hke]
      exact ⟨by omega,by omega,fun h=>by omega,fun h=>by simpa using hbb⟩
     clear hb hg hbb
     go_wp2_with (first|(go_at_call 45;refine (FY.out _).mono ?_;rintro e wf ⟨rfl,hbf⟩;replace hB:=below_step hB hB.size hbf;clear hbf)|(go_at_call 43;refine (RES.out _).mono ?_;rintro e w' ⟨rfl,rfl⟩))
     go_ret
     exact ⟨by rw [rnd_eq hcut hR];first|rfl|(rw [hke];rfl),hB⟩
end Go.Proofs.YteephgpefhodnaaGreat
namespace Go.Proofs.YteephgpefhodnaaGreat
open Go.RowKit Go.Sort Go.Fl
set_option linter.unusedSimpArgs false
set_option linter.unusedVariables false
set_option maxHeartbeats 1000000 in
theorem rr_nx (o:Int) (x y:Nat) (up:Bool) (wx:Wd x) (wy:Wd y) (fx : ¬fin x) (w:World) :
  Calls Tryz.prog 18 #[.int .i64 o,.float .f64 x,.float .f64 y,.bool up] w fun e w'=>e = .returned (.float .f64 NANW)∧Below w.heap.size w w':=by
 have FX:=Lib.hid (fun w=>reffin_no x fx w)
 by_cases fy:fin y
 ·have FY:=Lib.hid (fun w=>reffin_yes y fy w)
  have B:=Below.refl w.heap.size w
  go_enter Tryz.func18,Tryz.ntmps18
  go_wp2_with (first|(go_at_call 45;(first|(with_reducible refine (FX.out _).mono ?_)|(with_reducible refine (FY.out _).mono ?_));rintro e wf ⟨rfl,hbf⟩;replace B:=below_step B B.size hbf;clear hbf)|(go_at_call 46;refine (mathnan_any _).mono ?_;rintro e w' ⟨rfl,rfl⟩))
  go_ret
  exact ⟨rfl,B⟩
 ·have FY:=Lib.hid (fun w=>reffin_no y fy w)
  have B:=Below.refl w.heap.size w
  go_enter Tryz.func18,Tryz.ntmps18
  go_wp2_with (first|(go_at_call 45;(first|(with_reducible refine (FX.out _).mono ?_)|(with_reducible refine (FY.out _).mono ?_));rintro e wf ⟨rfl,hbf⟩;replace B:=below_step B B.size hbf;clear hbf)|(go_at_call 46;refine (mathnan_any _).mono ?_;rintro e w' ⟨rfl,rfl⟩))
  go_ret
  exact ⟨rfl,B⟩
set_option maxHeartbeats 1000000 in
theorem rr_lt (o:Int) (x y:Nat) (up:Bool) (wx:Wd x) (wy:Wd y) (fx:fin x) (ho:o<3) (w:World) :
  Calls Tryz.prog 18 #[.int .i64 o,.float .f64 x,.float .f64 y,.bool up] w fun e w'=>e = .returned (.float .f64 NANW)∧Below w.heap.size w w':=by
 have FX:=Lib.hid (fun w=>reffin_yes x fx w)
 by_cases fy:fin y
 ·have FY:=Lib.hid (fun w=>reffin_yes y fy w)
  have B:=Below.refl w.heap.size w
  go_enter Tryz.func18,Tryz.ntmps18
  go_wp2_with (first|(go_at_call 45;(first|(with_reducible refine (FX.out _).mono ?_)|(with_reducible refine (FY.out _).mono ?_));rintro e wf ⟨rfl,hbf⟩;replace B:=below_step B B.size hbf;clear hbf)|(go_at_call 46;refine (mathnan_any _).mono ?_;rintro e w' ⟨rfl,rfl⟩))
  go_ret
  exact ⟨rfl,B⟩
 ·have FY:=Lib.hid (fun w=>reffin_no y fy w)
  have B:=Below.refl w.heap.size w
  go_enter Tryz.func18,Tryz.ntmps18
  go_wp2_with (first|(go_at_call 45;(first|(with_reducible refine (FX.out _).mono ?_)|(with_reducible refine (FY.out _).mono ?_));rintro e wf ⟨rfl,hbf⟩;replace B:=below_step B B.size hbf;clear hbf)|(go_at_call 46;refine (mathnan_any _).mono ?_;rintro e w' ⟨rfl,rfl⟩))
  go_ret
  exact ⟨rfl,B⟩
set_option maxHeartbeats 1000000 in
theorem rr_gt (o:Int) (x y:Nat) (up:Bool) (wx:Wd x) (wy:Wd y) (fx:fin x) (ho:9<o) (w:World) :
  Calls Tryz.prog 18 #[.int .i64 o,.float .f64 x,.float .f64 y,.bool up] w fun e w'=>e = .returned (.float .f64 NANW)∧Below w.heap.size w w':=by
 have FX:=Lib.hid (fun w=>reffin_yes x fx w)
 have h1 : ¬o<3:=by omega
 by_cases fy:fin y
 ·have FY:=Lib.hid (fun w=>reffin_yes y fy w)
  have B:=Below.refl w.heap.size w
  go_enter Tryz.func18,Tryz.ntmps18
  go_wp2_with (first|(go_at_call 45;(first|(with_reducible refine (FX.out _).mono ?_)|(with_reducible refine (FY.out _).mono ?_));rintro e wf ⟨rfl,hbf⟩;replace B:=below_step B B.size hbf;clear hbf)|(go_at_call 46;refine (mathnan_any _).mono ?_;rintro e w' ⟨rfl,rfl⟩))
  go_ret
  exact ⟨rfl,B⟩
 ·have FY:=Lib.hid (fun w=>reffin_no y fy w)
  have B:=Below.refl w.heap.size w
  go_enter Tryz.func18,Tryz.ntmps18
  go_wp2_with (first|(go_at_call 45;(first|(with_reducible refine (FX.out _).mono ?_)|(with_reducible refine (FY.out _).mono ?_));rintro e wf ⟨rfl,hbf⟩;replace B:=below_step B B.size hbf;clear hbf)|(go_at_call 46;refine (mathnan_any _).mono ?_;rintro e w' ⟨rfl,rfl⟩))
  go_ret
  exact ⟨rfl,B⟩
set_option maxHeartbeats 1000000 in
theorem rr_4 (x y:Nat) (up:Bool) (wx:Wd x) (wy:Wd y) (fx:fin x) (w:World) :
  Calls Tryz.prog 18 #[.int .i64 4,.float .f64 x,.float .f64 y,.bool up] w fun e w'=>e = .returned (.float .f64 NANW)∧Below w.heap.size w w':=by
 have FX:=Lib.hid (fun w=>reffin_yes x fx w)
 by_cases fy:fin y
 ·have FY:=Lib.hid (fun w=>reffin_yes y fy w)
  have B:=Below.refl w.heap.size w
  go_enter Tryz.func18,Tryz.ntmps18
  go_wp2_with (first|(go_at_call 45;(first|(with_reducible refine (FX.out _).mono ?_)|(with_reducible refine (FY.out _).mono ?_));rintro e wf ⟨rfl,hbf⟩;replace B:=below_step B B.size hbf;clear hbf)|(go_at_call 46;refine (mathnan_any _).mono ?_;rintro e w' ⟨rfl,rfl⟩))
  go_ret
  exact ⟨rfl,B⟩
 ·have FY:=Lib.hid (fun w=>reffin_no y fy w)
  have B:=Below.refl w.heap.size w
  go_enter Tryz.func18,Tryz.ntmps18
  go_wp2_with (first|(go_at_call 45;(first|(with_reducible refine (FX.out _).mono ?_)|(with_reducible refine (FY.out _).mono ?_));rintro e wf ⟨rfl,hbf⟩;replace B:=below_step B B.size hbf;clear hbf)|(go_at_call 46;refine (mathnan_any _).mono ?_;rintro e w' ⟨rfl,rfl⟩))
  go_ret
  exact ⟨rfl,B⟩
set_option maxHeartbeats 1000000 in
theorem rr_5 (x y:Nat) (up:Bool) (wx:Wd x) (wy:Wd y) (fx:fin x) (w:World) :
  Calls Tryz.prog 18 #[.int .i64 5,.float .f64 x,.float .f64 y,.bool up] w fun e w'=>e = .returned (.float .f64 NANW)∧Below w.heap.size w w':=by
 have FX:=Lib.hid (fun w=>reffin_yes x fx w)
 by_cases fy:fin y
 ·have FY:=Lib.hid (fun w=>reffin_yes y fy w)
  have B:=Below.refl w.heap.size w
  go_enter Tryz.func18,Tryz.ntmps18
  go_wp2_with (first|(go_at_call 45;(first|(with_reducible refine (FX.out _).mono ?_)|(with_reducible refine (FY.out _).mono ?_));rintro e wf ⟨rfl,hbf⟩;replace B:=below_step B B.size hbf;clear hbf)|(go_at_call 46;refine (mathnan_any _).mono ?_;rintro e w' ⟨rfl,rfl⟩))
  go_ret
  exact ⟨rfl,B⟩
 ·have FY:=Lib.hid (fun w=>reffin_no y fy w)
  have B:=Below.refl w.heap.size w
  go_enter Tryz.func18,Tryz.ntmps18
  go_wp2_with (first|(go_at_call 45;(first|(with_reducible refine (FX.out _).mono ?_)|(with_reducible refine (FY.out _).mono ?_));rintro e wf ⟨rfl,hbf⟩;replace B:=below_step B B.size hbf;clear hbf)|(go_at_call 46;refine (mathnan_any _).mono ?_;rintro e w' ⟨rfl,rfl⟩))
  go_ret
  exact ⟨rfl,B⟩
set_option maxHeartbeats 1000000 in
theorem rr_3n (x y:Nat) (up:Bool) (wx:Wd x) (wy:Wd y) (fx:fin x) (hk:key x<0) (w:World) :
  Calls Tryz.prog 18 #[.int .i64 3,.float .f64 x,.float .f64 y,.bool up] w fun e w'=>e = .returned (.float .f64 NANW)∧Below w.heap.size w w':=by
 have FX:=Lib.hid (fun w=>reffin_yes x fx w)
 have nx : ¬nan x:=by unfold nan;unfold fin at fx;omega
 by_cases fy:fin y
 ·have FY:=Lib.hid (fun w=>reffin_yes y fy w)
  have B:=Below.refl w.heap.size w
  go_enter Tryz.func18,Tryz.ntmps18
  go_wp2_with (first|(go_at_call 45;(first|(with_reducible refine (FX.out _).mono ?_)|(with_reducible refine (FY.out _).mono ?_));rintro e wf ⟨rfl,hbf⟩;replace B:=below_step B B.size hbf;clear hbf)|(go_at_call 46;refine (mathnan_any _).mono ?_;rintro e w' ⟨rfl,rfl⟩))
  go_ret
  exact ⟨rfl,B⟩
 ·have FY:=Lib.hid (fun w=>reffin_no y fy w)
  have B:=Below.refl w.heap.size w
  go_enter Tryz.func18,Tryz.ntmps18
  go_wp2_with (first|(go_at_call 45;(first|(with_reducible refine (FX.out _).mono ?_)|(with_reducible refine (FY.out _).mono ?_));rintro e wf ⟨rfl,hbf⟩;replace B:=below_step B B.size hbf;clear hbf)|(go_at_call 46;refine (mathnan_any _).mono ?_;rintro e w' ⟨rfl,rfl⟩))
  go_ret
  exact ⟨rfl,B⟩
set_option maxHeartbeats 1000000 in
theorem rr_3true (x y:Nat) (wx:Wd x) (wy:Wd y) (fx:fin x) (hk:0≤key x) (r:Nat) (hl : ∀ w,Calls Tryz.prog 47 #[.int .i64 3,.float .f64 x,.float .f64 4607182418800017408] w fun e w'=>e = .returned (.float .f64 r)∧Below w.heap.size w w') (w:World) :
  Calls Tryz.prog 18 #[.int .i64 3,.float .f64 x,.float .f64 y,.bool true] w fun e w'=>e = .returned (.float .f64 r)∧Below w.heap.size w w':=by
 have FX:=Lib.hid (fun w=>reffin_yes x fx w)
 have nx : ¬nan x:=by unfold nan;unfold fin at fx;omega
 have LU:=Lib.hid hl
 clear hl
 by_cases fy:fin y
 ·have FY:=Lib.hid (fun w=>reffin_yes y fy w)
  have B:=Below.refl w.heap.size w
  go_enter Tryz.func18,Tryz.ntmps18
  go_wp2_with (first|(go_at_call 45;(first|(with_reducible refine (FX.out _).mono ?_)|(with_reducible refine (FY.out _).mono ?_));rintro e wf ⟨rfl,hbf⟩;replace B:=below_step B B.size hbf;clear hbf)|(go_at_call 46;refine (mathnan_any _).mono ?_;rintro e w' ⟨rfl,rfl⟩)|(go_at_call 47;refine (LU.out _).mono ?_;rintro e wg ⟨rfl,hbg⟩;replace B:=below_step B B.size hbg;clear hbg))
  go_ret
  exact ⟨rfl,B⟩
 ·have FY:=Lib.hid (fun w=>reffin_no y fy w)
  have B:=Below.refl w.heap.size w
  go_enter Tryz.func18,Tryz.ntmps18
  go_wp2_with (first|(go_at_call 45;(first|(with_reducible refine (FX.out _).mono ?_)|(with_reducible refine (FY.out _).mono ?_));rintro e wf ⟨rfl,hbf⟩;replace B:=below_step B B.size hbf;clear hbf)|(go_at_call 46;refine (mathnan_any _).mono ?_;rintro e w' ⟨rfl,rfl⟩)|(go_at_call 47;refine (LU.out _).mono ?_;rintro e wg ⟨rfl,hbg⟩;replace B:=below_step B B.size hbg;clear hbg))
  go_ret
  exact ⟨rfl,B⟩
set_option maxHeartbeats 1000000 in
theorem rr_3false (x y:Nat) (wx:Wd x) (wy:Wd y) (fx:fin x) (hk:0≤key x) (r:Nat) (hl : ∀ w,Calls Tryz.prog 48 #[.int .i64 3,.float .f64 x,.float .f64 4607182418800017408] w fun e w'=>e = .returned (.float .f64 r)∧Below w.heap.size w w') (w:World) :
  Calls Tryz.prog 18 #[.int .i64 3,.float .f64 x,.float .f64 y,.bool false] w fun e w'=>e = .returned (.float .f64 r)∧Below w.heap.size w w':=by
 have FX:=Lib.hid (fun w=>reffin_yes x fx w)
 have nx : ¬nan x:=by unfold nan;unfold fin at fx;omega
 have LU:=Lib.hid hl
 clear hl
 by_cases fy:fin y
 ·have FY:=Lib.hid (fun w=>reffin_yes y fy w)
  have B:=Below.refl w.heap.size w
  go_enter Tryz.func18,Tryz.ntmps18
  go_wp2_with (first|(go_at_call 45;(first|(with_reducible refine (FX.out _).mono ?_)|(with_reducible refine (FY.out _).mono ?_));rintro e wf ⟨rfl,hbf⟩;replace B:=below_step B B.size hbf;clear hbf)|(go_at_call 46;refine (mathnan_any _).mono ?_;rintro e w' ⟨rfl,rfl⟩)|(go_at_call 48;refine (LU.out _).mono ?_;rintro e wg ⟨rfl,hbg⟩;replace B:=below_step B B.size hbg;clear hbg))
  go_ret
  exact ⟨rfl,B⟩
 ·have FY:=Lib.hid (fun w=>reffin_no y fy w)
  have B:=Below.refl w.heap.size w
  go_enter Tryz.func18,Tryz.ntmps18
  go_wp2_with (first|(go_at_call 45;(first|(with_reducible refine (FX.out _).mono ?_)|(with_reducible refine (FY.out _).mono ?_));rintro e wf ⟨rfl,hbf⟩;replace B:=below_step B B.size hbf;clear hbf)|(go_at_call 46;refine (mathnan_any _).mono ?_;rintro e w' ⟨rfl,rfl⟩)|(go_at_call 48;refine (LU.out _).mono ?_;rintro e wg ⟨rfl,hbg⟩;replace B:=below_step B B.size hbg;clear hbg))
  go_ret
  exact ⟨rfl,B⟩
set_option maxHeartbeats 1000000 in
theorem rr_6n (x y:Nat) (up:Bool) (wx:Wd x) (wy:Wd y) (fx:fin x) (fy : ¬fin y) (w:World) :
  Calls Tryz.prog 18 #[.int .i64 6,.float .f64 x,.float .f64 y,.bool up] w fun e w'=>e = .returned (.float .f64 NANW)∧Below w.heap.size w w':=by
 have FX:=Lib.hid (fun w=>reffin_yes x fx w)
 have FY:=Lib.hid (fun w=>reffin_no y fy w)
 have B:=Below.refl w.heap.size w
 go_enter Tryz.func18,Tryz.ntmps18
 go_wp2_with (first|(go_at_call 45;(first|(with_reducible refine (FX.out _).mono ?_)|(with_reducible refine (FY.out _).mono ?_));rintro e wf ⟨rfl,hbf⟩;replace B:=below_step B B.size hbf;clear hbf)|(go_at_call 46;refine (mathnan_any _).mono ?_;rintro e w' ⟨rfl,rfl⟩))
 go_ret
 exact ⟨rfl,B⟩
set_option maxHeartbeats 1000000 in
theorem rr_6true (x y:Nat) (wx:Wd x) (wy:Wd y) (fx:fin x) (fy:fin y) (r:Nat) (hl : ∀ w,Calls Tryz.prog 47 #[.int .i64 6,.float .f64 x,.float .f64 y] w fun e w'=>e = .returned (.float .f64 r)∧Below w.heap.size w w') (w:World) :
  Calls Tryz.prog 18 #[.int .i64 6,.float .f64 x,.float .f64 y,.bool true] w fun e w'=>e = .returned (.float .f64 r)∧Below w.heap.size w w':=by
 have FX:=Lib.hid (fun w=>reffin_yes x fx w)
 have LU:=Lib.hid hl
 clear hl
 have FY:=Lib.hid (fun w=>reffin_yes y fy w)
 have B:=Below.refl w.heap.size w
 go_enter Tryz.func18,Tryz.ntmps18
 go_wp2_with (first|(go_at_call 45;(first|(with_reducible refine (FX.out _).mono ?_)|(with_reducible refine (FY.out _).mono ?_));rintro e wf ⟨rfl,hbf⟩;replace B:=below_step B B.size hbf;clear hbf)|(go_at_call 46;refine (mathnan_any _).mono ?_;rintro e w' ⟨rfl,rfl⟩)|(go_at_call 47;refine (LU.out _).mono ?_;rintro e wg ⟨rfl,hbg⟩;replace B:=below_step B B.size hbg;clear hbg))
 go_ret
 exact ⟨rfl,B⟩
set_option maxHeartbeats 1000000 in
theorem rr_6false (x y:Nat) (wx:Wd x) (wy:Wd y) (fx:fin x) (fy:fin y) (r:Nat) (hl : ∀ w,Calls Tryz.prog 48 #[.int .i64 6,.float .f64 x,.float .f64 y] w fun e w'=>e = .returned (.float .f64 r)∧Below w.heap.size w w') (w:World) :
  Calls Tryz.prog 18 #[.int .i64 6,.float .f64 x,.float .f64 y,.bool false] w fun e w'=>e = .returned (.float .f64 r)∧Below w.heap.size w w':=by
 have FX:=Lib.hid (fun w=>reffin_yes x fx w)
 have LU:=Lib.hid hl
 clear hl
 have FY:=Lib.hid (fun w=>reffin_yes y fy w)
 have B:=Below.refl w.heap.size w
 go_enter Tryz.func18,Tryz.ntmps18
 go_wp2_with (first|(go_at_call 45;(first|(with_reducible refine (FX.out _).mono ?_)|(with_reducible refine (FY.out _).mono ?_));rintro e wf ⟨rfl,hbf⟩;replace B:=below_step B B.size hbf;clear hbf)|(go_at_call 46;refine (mathnan_any _).mono ?_;rintro e w' ⟨rfl,rfl⟩)|(go_at_call 48;refine (LU.out _).mono ?_;rintro e wg ⟨rfl,hbg⟩;replace B:=below_step B B.size hbg;clear hbg))
 go_ret
 exact ⟨rfl,B⟩
set_option maxHeartbeats 1000000 in
theorem rr_7n (x y:Nat) (up:Bool) (wx:Wd x) (wy:Wd y) (fx:fin x) (fy : ¬fin y) (w:World) :
  Calls Tryz.prog 18 #[.int .i64 7,.float .f64 x,.float .f64 y,.bool up] w fun e w'=>e = .returned (.float .f64 NANW)∧Below w.heap.size w w':=by
 have FX:=Lib.hid (fun w=>reffin_yes x fx w)
 have FY:=Lib.hid (fun w=>reffin_no y fy w)
 have B:=Below.refl w.heap.size w
 go_enter Tryz.func18,Tryz.ntmps18
 go_wp2_with (first|(go_at_call 45;(first|(with_reducible refine (FX.out _).mono ?_)|(with_reducible refine (FY.out _).mono ?_));rintro e wf ⟨rfl,hbf⟩;replace B:=below_step B B.size hbf;clear hbf)|(go_at_call 46;refine (mathnan_any _).mono ?_;rintro e w' ⟨rfl,rfl⟩))
 go_ret
 exact ⟨rfl,B⟩
set_option maxHeartbeats 1000000 in
theorem rr_7true (x y:Nat) (wx:Wd x) (wy:Wd y) (fx:fin x) (fy:fin y) (r:Nat) (hl : ∀ w,Calls Tryz.prog 47 #[.int .i64 7,.float .f64 x,.float .f64 y] w fun e w'=>e = .returned (.float .f64 r)∧Below w.heap.size w w') (w:World) :
  Calls Tryz.prog 18 #[.int .i64 7,.float .f64 x,.float .f64 y,.bool true] w fun e w'=>e = .returned (.float .f64 r)∧Below w.heap.size w w':=by
 have FX:=Lib.hid (fun w=>reffin_yes x fx w)
 have LU:=Lib.hid hl
 clear hl
 have FY:=Lib.hid (fun w=>reffin_yes y fy w)
 have B:=Below.refl w.heap.size w
 go_enter Tryz.func18,Tryz.ntmps18
 go_wp2_with (first|(go_at_call 45;(first|(with_reducible refine (FX.out _).mono ?_)|(with_reducible refine (FY.out _).mono ?_));rintro e wf ⟨rfl,hbf⟩;replace B:=below_step B B.size hbf;clear hbf)|(go_at_call 46;refine (mathnan_any _).mono ?_;rintro e w' ⟨rfl,rfl⟩)|(go_at_call 47;refine (LU.out _).mono ?_;rintro e wg ⟨rfl,hbg⟩;replace B:=below_step B B.size hbg;clear hbg))
 go_ret
 exact ⟨rfl,B⟩
set_option maxHeartbeats 1000000 in
theorem rr_7false (x y:Nat) (wx:Wd x) (wy:Wd y) (fx:fin x) (fy:fin y) (r:Nat) (hl : ∀ w,Calls Tryz.prog 48 #[.int .i64 7,.float .f64 x,.float .f64 y] w fun e w'=>e = .returned (.float .f64 r)∧Below w.heap.size w w') (w:World) :
  Calls Tryz.prog 18 #[.int .i64 7,.float .f64 x,.float .f64 y,.bool false] w fun e w'=>e = .returned (.float .f64 r)∧Below w.heap.size w w':=by
 have FX:=Lib.hid (fun w=>reffin_yes x fx w)
 have LU:=Lib.hid hl
 clear hl
 have FY:=Lib.hid (fun w=>reffin_yes y fy w)
 have B:=Below.refl w.heap.size w
 go_enter Tryz.func18,Tryz.ntmps18
 go_wp2_with (first|(go_at_call 45;(first|(with_reducible refine (FX.out _).mono ?_)|(with_reducible refine (FY.out _).mono ?_));rintro e wf ⟨rfl,hbf⟩;replace B:=below_step B B.size hbf;clear hbf)|(go_at_call 46;refine (mathnan_any _).mono ?_;rintro e w' ⟨rfl,rfl⟩)|(go_at_call 48;refine (LU.out _).mono ?_;rintro e wg ⟨rfl,hbg⟩;replace B:=below_step B B.size hbg;clear hbg))
 go_ret
 exact ⟨rfl,B⟩
set_option maxHeartbeats 1000000 in
theorem rr_8n (x y:Nat) (up:Bool) (wx:Wd x) (wy:Wd y) (fx:fin x) (fy : ¬fin y) (w:World) :
  Calls Tryz.prog 18 #[.int .i64 8,.float .f64 x,.float .f64 y,.bool up] w fun e w'=>e = .returned (.float .f64 NANW)∧Below w.heap.size w w':=by
 have FX:=Lib.hid (fun w=>reffin_yes x fx w)
 have FY:=Lib.hid (fun w=>reffin_no y fy w)
 have B:=Below.refl w.heap.size w
 go_enter Tryz.func18,Tryz.ntmps18
 go_wp2_with (first|(go_at_call 45;(first|(with_reducible refine (FX.out _).mono ?_)|(with_reducible refine (FY.out _).mono ?_));rintro e wf ⟨rfl,hbf⟩;replace B:=below_step B B.size hbf;clear hbf)|(go_at_call 46;refine (mathnan_any _).mono ?_;rintro e w' ⟨rfl,rfl⟩))
 go_ret
 exact ⟨rfl,B⟩
set_option maxHeartbeats 1000000 in
theorem rr_8true (x y:Nat) (wx:Wd x) (wy:Wd y) (fx:fin x) (fy:fin y) (r:Nat) (hl : ∀ w,Calls Tryz.prog 47 #[.int .i64 8,.float .f64 x,.float .f64 y] w fun e w'=>e = .returned (.float .f64 r)∧Below w.heap.size w w') (w:World) :
  Calls Tryz.prog 18 #[.int .i64 8,.float .f64 x,.float .f64 y,.bool true] w fun e w'=>e = .returned (.float .f64 r)∧Below w.heap.size w w':=by
 have FX:=Lib.hid (fun w=>reffin_yes x fx w)
 have LU:=Lib.hid hl
 clear hl
 have FY:=Lib.hid (fun w=>reffin_yes y fy w)
 have B:=Below.refl w.heap.size w
 go_enter Tryz.func18,Tryz.ntmps18
 go_wp2_with (first|(go_at_call 45;(first|(with_reducible refine (FX.out _).mono ?_)|(with_reducible refine (FY.out _).mono ?_));rintro e wf ⟨rfl,hbf⟩;replace B:=below_step B B.size hbf;clear hbf)|(go_at_call 46;refine (mathnan_any _).mono ?_;rintro e w' ⟨rfl,rfl⟩)|(go_at_call 47;refine (LU.out _).mono ?_;rintro e wg ⟨rfl,hbg⟩;replace B:=below_step B B.size hbg;clear hbg))
 go_ret
 exact ⟨rfl,B⟩
set_option maxHeartbeats 1000000 in
theorem rr_8false (x y:Nat) (wx:Wd x) (wy:Wd y) (fx:fin x) (fy:fin y) (r:Nat) (hl : ∀ w,Calls Tryz.prog 48 #[.int .i64 8,.float .f64 x,.float .f64 y] w fun e w'=>e = .returned (.float .f64 r)∧Below w.heap.size w w') (w:World) :
  Calls Tryz.prog 18 #[.int .i64 8,.float .f64 x,.float .f64 y,.bool false] w fun e w'=>e = .returned (.float .f64 r)∧Below w.heap.size w w':=by
 have FX:=Lib.hid (fun w=>reffin_yes x fx w)
 have LU:=Lib.hid hl
 clear hl
 have FY:=Lib.hid (fun w=>reffin_yes y fy w)
 have B:=Below.refl w.heap.size w
 go_enter Tryz.func18,Tryz.ntmps18
 go_wp2_with (first|(go_at_call 45;(first|(with_reducible refine (FX.out _).mono ?_)|(with_reducible refine (FY.out _).mono ?_));rintro e wf ⟨rfl,hbf⟩;replace B:=below_step B B.size hbf;clear hbf)|(go_at_call 46;refine (mathnan_any _).mono ?_;rintro e w' ⟨rfl,rfl⟩)|(go_at_call 48;refine (LU.out _).mono ?_;rintro e wg ⟨rfl,hbg⟩;replace B:=below_step B B.size hbg;clear hbg))
 go_ret
 exact ⟨rfl,B⟩
set_option maxHeartbeats 1000000 in
theorem rr_9n (x y:Nat) (up:Bool) (wx:Wd x) (wy:Wd y) (fx:fin x) (fy : ¬fin y) (w:World) :
  Calls Tryz.prog 18 #[.int .i64 9,.float .f64 x,.float .f64 y,.bool up] w fun e w'=>e = .returned (.float .f64 NANW)∧Below w.heap.size w w':=by
 have FX:=Lib.hid (fun w=>reffin_yes x fx w)
 have FY:=Lib.hid (fun w=>reffin_no y fy w)
 have B:=Below.refl w.heap.size w
 go_enter Tryz.func18,Tryz.ntmps18
 go_wp2_with (first|(go_at_call 45;(first|(with_reducible refine (FX.out _).mono ?_)|(with_reducible refine (FY.out _).mono ?_));rintro e wf ⟨rfl,hbf⟩;replace B:=below_step B B.size hbf;clear hbf)|(go_at_call 46;refine (mathnan_any _).mono ?_;rintro e w' ⟨rfl,rfl⟩))
 go_ret
 exact ⟨rfl,B⟩
set_option maxHeartbeats 1000000 in
theorem rr_9true (x y:Nat) (wx:Wd x) (wy:Wd y) (fx:fin x) (fy:fin y) (r:Nat) (hy : ¬key y=0) (hl : ∀ w,Calls Tryz.prog 47 #[.int .i64 9,.float .f64 x,.float .f64 y] w fun e w'=>e = .returned (.float .f64 r)∧Below w.heap.size w w') (w:World) :
  Calls Tryz.prog 18 #[.int .i64 9,.float .f64 x,.float .f64 y,.bool true] w fun e w'=>e = .returned (.float .f64 r)∧Below w.heap.size w w':=by
 have FX:=Lib.hid (fun w=>reffin_yes x fx w)
 have ny : ¬nan y:=by unfold nan;unfold fin at fy;omega
 have LU:=Lib.hid hl
 clear hl
 have FY:=Lib.hid (fun w=>reffin_yes y fy w)
 have B:=Below.refl w.heap.size w
 go_enter Tryz.func18,Tryz.ntmps18
 go_wp2_with (first|(go_at_call 45;(first|(with_reducible refine (FX.out _).mono ?_)|(with_reducible refine (FY.out _).mono ?_));rintro e wf ⟨rfl,hbf⟩;replace B:=below_step B B.size hbf;clear hbf)|(go_at_call 46;refine (mathnan_any _).mono ?_;rintro e w' ⟨rfl,rfl⟩)|(go_at_call 47;refine (LU.out _).mono ?_;rintro e wg ⟨rfl,hbg⟩;replace B:=below_step B B.size hbg;clear hbg))
 go_ret
 exact ⟨rfl,B⟩
set_option maxHeartbeats 1000000 in
theorem rr_9false (x y:Nat) (wx:Wd x) (wy:Wd y) (fx:fin x) (fy:fin y) (r:Nat) (hy : ¬key y=0) (hl : ∀ w,Calls Tryz.prog 48 #[.int .i64 9,.float .f64 x,.float .f64 y] w fun e w'=>e = .returned (.float .f64 r)∧Below w.heap.size w w') (w:World) :
  Calls Tryz.prog 18 #[.int .i64 9,.float .f64 x,.float .f64 y,.bool false] w fun e w'=>e = .returned (.float .f64 r)∧Below w.heap.size w w':=by
 have FX:=Lib.hid (fun w=>reffin_yes x fx w)
 have ny : ¬nan y:=by unfold nan;unfold fin at fy;omega
 have LU:=Lib.hid hl
 clear hl
 have FY:=Lib.hid (fun w=>reffin_yes y fy w)
 have B:=Below.refl w.heap.size w
 go_enter Tryz.func18,Tryz.ntmps18
 go_wp2_with (first|(go_at_call 45;(first|(with_reducible refine (FX.out _).mono ?_)|(with_reducible refine (FY.out _).mono ?_));rintro e wf ⟨rfl,hbf⟩;replace B:=below_step B B.size hbf;clear hbf)|(go_at_call 46;refine (mathnan_any _).mono ?_;rintro e w' ⟨rfl,rfl⟩)|(go_at_call 48;refine (LU.out _).mono ?_;rintro e wg ⟨rfl,hbg⟩;replace B:=below_step B B.size hbg;clear hbg))
 go_ret
 exact ⟨rfl,B⟩
set_option maxHeartbeats 1000000 in
theorem rr_9z (x y:Nat) (up:Bool) (wx:Wd x) (wy:Wd y) (fx:fin x) (fy:fin y) (hy:key y=0) (w:World) :
  Calls Tryz.prog 18 #[.int .i64 9,.float .f64 x,.float .f64 y,.bool up] w fun e w'=>e = .returned (.float .f64 NANW)∧Below w.heap.size w w':=by
 have FX:=Lib.hid (fun w=>reffin_yes x fx w)
 have ny : ¬nan y:=by unfold nan;unfold fin at fy;omega
 have FY:=Lib.hid (fun w=>reffin_yes y fy w)
 have B:=Below.refl w.heap.size w
 go_enter Tryz.func18,Tryz.ntmps18
 go_wp2_with (first|(go_at_call 45;(first|(with_reducible refine (FX.out _).mono ?_)|(with_reducible refine (FY.out _).mono ?_));rintro e wf ⟨rfl,hbf⟩;replace B:=below_step B B.size hbf;clear hbf)|(go_at_call 46;refine (mathnan_any _).mono ?_;rintro e w' ⟨rfl,rfl⟩))
 go_ret
 exact ⟨rfl,B⟩
end Go.Proofs.YteephgpefhodnaaGreat
namespace Go.Proofs.YteephgpefhodnaaGreat
open Go.RowKit Go.Sort Go.Fl
set_option linter.unusedSimpArgs false
set_option linter.unusedVariables false
theorem one_fin:fin 4607182418800017408:=by decide
theorem one_wd:Wd 4607182418800017408:=by unfold Wd;omega
theorem beyond_sqrt_neg (x y c:Nat) (hx:fin x) (hy:fin y) (hc:fin c) (wx:Wd x) (wy:Wd y) (wc:Wd c) (hs:key c<0) (w:World) :
  Calls Tryz.prog 81 #[.int .i64 3,.float .f64 x,.float .f64 y,.float .f64 c] w fun e w'=>e = .returned (.int .i64 (cSqrt (key x) (key c)).sign)∧Below w.heap.size w w':=by
 have e:(cSqrt (key x) (key c)).sign=1:=by unfold cSqrt;rw [if_pos hs];rfl
 rw [e]
 have hnc : ¬nan c:=by unfold nan;unfold fin at hc;omega
 have CX:=Lib.hid (fun w=>bigof_any x hx wx w)
 have CY:=Lib.hid (fun w=>bigof_any y hy wy w)
 have CC:=Lib.hid (fun w=>bigof_any (Op.negFloat .f64 c) (fin_fneg hc wc) (wd_neg wc) w)
 go_enter Tryz.func81,Tryz.ntmps81
 go_wp2_with fail
 refine (CX.out _).mono ?_
 rintro e w1 ⟨⟨val,N1,E1,rfl,G1,_⟩,hb1⟩
 obtain ⟨s1,q1,n1,c1,rfl⟩:=BigAt.shape G1
 clear G1
 go_wp2_with fail
 refine (CY.out _).mono ?_
 rintro e w2 ⟨⟨val,N2,E2,rfl,G2,_⟩,hb2⟩
 obtain ⟨s2,q2,n2,c2,rfl⟩:=BigAt.shape G2
 clear G2
 have B:=below_step hb1 hb1.size (below_alloc hb2)
 clear hb1 hb2
 go_wp2_with fail
 refine (CC.out _).mono ?_
 rintro e w3 ⟨⟨val,N3,E3,rfl,G3,_⟩,hb3⟩
 obtain ⟨s3,q3,n3,c3,rfl⟩:=BigAt.shape G3
 clear G3
 replace B:=below_step B B.size (below_alloc hb3)
 clear hb3
 go_wp2_with fail
 go_ret
 exact ⟨rfl,Below.alloc B B.size _⟩
theorem doc_round (o:Int) (x y:Nat) (cc:Int→Int) (hcut:Cut cc) (hnear : ∃ c:Nat,fin c∧Wd c ∧ ∀ w,Calls Tryz.prog 80 #[.int .i64 o,.float .f64 x,.float .f64 y] w fun e w'=>e = .returned (.float .f64 c)∧w=w')
  (hb0 : ∀ u:Nat,fin u→Wd u → ∀ w,Calls Tryz.prog 81 #[.int .i64 o,.float .f64 x,.float .f64 y,.float .f64 u] w fun e w'=>e = .returned (.int .i64 (cc (key u)).sign)∧Below w.heap.size w w') :
  (∀ w,Calls Tryz.prog 48 #[.int .i64 o,.float .f64 x,.float .f64 y] w fun e w'=>e = .returned (.float .f64 (ofKey (rnd false cc)))∧Below w.heap.size w w')∧(∀ w,Calls Tryz.prog 47 #[.int .i64 o,.float .f64 x,.float .f64 y] w fun e w'=>e = .returned (.float .f64 (ofKey (rnd true cc)))∧Below w.heap.size w w') :=
 ⟨fun w=>lower_any o x y cc hcut hnear hb0 w,fun w=>upper_any o x y cc hcut hnear hb0 w⟩
theorem refround_any (o:Int) (x y:Nat) (up:Bool) (wx:Wd x) (wy:Wd y) (w:World) :
  Calls Tryz.prog 18 #[.int .i64 o,.float .f64 x,.float .f64 y,.bool up] w fun e w'=>e = .returned (.float .f64 (roundW o x y up))∧Below w.heap.size w w':=by
 by_cases fx:fin x
 ·by_cases h3:o=3
  ·subst h3
   by_cases hk:0≤key x
   ·rw [round_yes up ⟨fx,.inl ⟨rfl,hk⟩⟩]
    have d:=doc_round 3 x 4607182418800017408 (cSqrt (key x)) (cut_sqrt _) (near_3 x 4607182418800017408 fx one_fin wx one_wd hk) (fun u hu wu w=>by
     by_cases hs:0≤key u
     ·exact beyond_sqrt x _ u fx one_fin hu wx one_wd wu hs (by unfold nan;unfold fin at hu;omega) w
     ·exact beyond_sqrt_neg x _ u fx one_fin hu wx one_wd wu (by omega) w)
    cases up
    ·exact rr_3false x y wx wy fx hk _ d.1 w
    ·exact rr_3true x y wx wy fx hk _ d.2 w
   ·rw [round_no up (by omega)]
    exact rr_3n x y up wx wy fx (by omega) w
  by_cases ho:o=6∨o=7∨o=8∨o=9
  ·by_cases fy:fin y
   ·rcases ho with rfl|rfl|rfl|rfl
    ·rw [round_yes up ⟨fx,.inr ⟨fy,.inl rfl⟩⟩]
     have d:=doc_round 6 x y (cAdd (key x) (key y)) (cut_add _ _) (near_6 x y fx fy wx wy) (fun u hu wu w=>beyond_add x y u fx fy hu wx wy wu w)
     cases up
     ·exact rr_6false x y wx wy fx fy _ d.1 w
     ·exact rr_6true x y wx wy fx fy _ d.2 w
    ·rw [round_yes up ⟨fx,.inr ⟨fy,.inr (.inl rfl)⟩⟩]
     have d:=doc_round 7 x y (cAdd (key x) (-key y)) (cut_add _ _) (near_7 x y fx fy wx wy) (fun u hu wu w=>beyond_sub x y u fx fy hu wx wy wu w)
     cases up
     ·exact rr_7false x y wx wy fx fy _ d.1 w
     ·exact rr_7true x y wx wy fx fy _ d.2 w
    ·rw [round_yes up ⟨fx,.inr ⟨fy,.inr (.inr (.inl rfl))⟩⟩]
     have d:=doc_round 8 x y (cMul (key x) (key y)) (cut_mul _ _) (near_8 x y fx fy wx wy) (fun u hu wu w=>beyond_mul x y u fx fy hu wx wy wu w)
     cases up
     ·exact rr_8false x y wx wy fx fy _ d.1 w
     ·exact rr_8true x y wx wy fx fy _ d.2 w
    ·by_cases hy:key y=0
     ·rw [round_no up (by omega)]
      exact rr_9z x y up wx wy fx fy hy w
     ·rw [round_yes up ⟨fx,.inr ⟨fy,.inr (.inr (.inr ⟨rfl,hy⟩))⟩⟩]
      have d:=doc_round 9 x y (cDiv (key x) (key y)) (cut_div _ _ hy) (near_9 x y fx fy wx wy hy) (fun u hu wu w=>by
       by_cases hs:0<key y
       ·exact beyond_div_p x y u fx fy hu wx wy wu hs w
       ·exact beyond_div_n x y u fx fy hu wx wy wu (by omega) w)
      cases up
      ·exact rr_9false x y wx wy fx fy _ hy d.1 w
      ·exact rr_9true x y wx wy fx fy _ hy d.2 w
   ·rw [round_no up (fun h=>h.2.elim (fun g=>h3 g.1) (fun g=>fy g.1))]
    rcases ho with rfl|rfl|rfl|rfl
    ·exact rr_6n x y up wx wy fx fy w
    ·exact rr_7n x y up wx wy fx fy w
    ·exact rr_8n x y up wx wy fx fy w
    ·exact rr_9n x y up wx wy fx fy w
  ·rw [round_no up (by omega)]
   by_cases h1:o<3
   ·exact rr_lt o x y up wx wy fx h1 w
   by_cases h2:9<o
   ·exact rr_gt o x y up wx wy fx h2 w
   rcases (show o=4∨o=5 by omega) with rfl|rfl
   ·exact rr_4 x y up wx wy fx w
   ·exact rr_5 x y up wx wy fx w
 ·rw [round_no up (fun h=>fx h.1)]
  exact rr_nx o x y up wx wy fx w
end Go.Proofs.YteephgpefhodnaaGreat
