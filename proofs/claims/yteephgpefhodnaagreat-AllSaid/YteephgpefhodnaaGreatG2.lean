/- The document's Apply: quotients of ends, flip, size. -/
import Derived.Test.YteephgpefhodnaaGreatG1
namespace Go.Proofs.YteephgpefhodnaaGreat
open Go.RowKit Go.Sort Go.Fl
set_option linter.unusedSimpArgs false
set_option linter.unusedVariables false
noncomputable def sideK (x y:Int) (up:Bool):Int:=if y=0 then (if 0<x then PI else -PI) else endK 9 x y up
theorem refinf_c (w:World):Calls Tryz.prog 59 #[] w fun e w'=>e = .returned (.float .f64 (ofKey (PI)))∧w=w':=refinf_any w
set_option maxHeartbeats 1000000 in
theorem side_9 (x y:Int) (up:Bool) (hx:Rg x) (hy:Rg y) (h0:0≤y) (w:World) :
  Calls Tryz.prog 85 #[.int .i64 9,.float .f64 (ofKey (x)),.float .f64 (ofKey (y)),.bool up] w fun e w'=>e = .returned (.float .f64 (ofKey (sideK x y up)))∧Below w.heap.size w w':=by
 have hP:=PI_pos
 have B:=Below.refl w.heap.size w
 by_cases ff:Fi x∧Fi y ∧ ¬y=0
 ·obtain ⟨fx,fy,y0⟩:=ff
  have FX:=Lib.hid ((reff_k hx).1 fx)
  have FY:=Lib.hid ((reff_k hy).1 fy)
  have RD:=Lib.hid (refround_k 9 x y up fx fy (by omega))
  have e:sideK x y up=roundK 9 x y up:=by unfold sideK;rw [if_neg y0,endK_fi fx fy]
  rw [e]
  generalize roundK 9 x y up=k at *
  clear e
  go_enter Tryz.func85,Tryz.ntmps85
  go_wp2_with (first|(go_at_call 45;(first|(with_reducible refine (FX.out _).mono ?_)|(with_reducible refine (FY.out _).mono ?_));rintro e wf ⟨rfl,hbf⟩;replace B:=below_step B B.size hbf;clear hbf)|(go_at_call 18;refine (RD.out _).mono ?_;rintro e wf ⟨rfl,hbf⟩;replace B:=below_step B B.size hbf;clear hbf))
  go_ret
  exact ⟨rfl,B⟩
 ·have HX : ∃ v,(v=true→Fi x) ∧ ∀ w,Calls Tryz.prog 45 #[.float .f64 (ofKey (x))] w fun e w'=>e = .returned (.bool v)∧Below w.heap.size w w':=by
   by_cases fx:Fi x
   ·exact ⟨true,fun _=>fx,(reff_k hx).1 fx⟩
   ·exact ⟨false,fun h=>absurd h (by decide),(reff_k hx).2 fx⟩
  have HY : ∃ v,(v=true→Fi y) ∧ ∀ w,Calls Tryz.prog 45 #[.float .f64 (ofKey (y))] w fun e w'=>e = .returned (.bool v)∧Below w.heap.size w w':=by
   by_cases fy:Fi y
   ·exact ⟨true,fun _=>fy,(reff_k hy).1 fy⟩
   ·exact ⟨false,fun h=>absurd h (by decide),(reff_k hy).2 fy⟩
  obtain ⟨vx,gx,hvx⟩:=HX
  obtain ⟨vy,gy,hvy⟩:=HY
  have FX:=Lib.hid hvx
  have FY:=Lib.hid hvy
  clear hvx hvy
  have hz:vx=true→vy=true→y=0:=fun a b=>by
   by_cases h:y=0
   ·exact h
   ·exact absurd ⟨gx a,gy b,h⟩ ff
  have hfin : ¬y=0 → ¬(Fi x∧Fi y):=fun h g=>ff ⟨g.1,g.2,h⟩
  by_cases hi:y=PI
  ·have e:sideK x y up=0:=by unfold sideK;rw [if_neg (by omega),hi,end9_PI]
   rw [e]
   have hv:vy=false:=by
    cases vy
    ·rfl
    ·exact absurd (gy rfl).2 (by omega)
   have dy:decide (y=PI)=true:=decide_eq_true hi
   have d0:decide (y=0)=false:=decide_eq_false (by omega)
   subst hv
   clear e gx gy hz hfin ff hi
   cases vx
   all_goals
    go_enter Tryz.func85,Tryz.ntmps85
    go_wp2_with (first|(go_at_call 45;(first|(with_reducible refine (FX.out _).mono ?_)|(with_reducible refine (FY.out _).mono ?_));rintro e wf ⟨rfl,hbf⟩;replace B:=below_step B B.size hbf;clear hbf)|(go_at_call 59;refine (refinf_any _).mono ?_;rintro e w' ⟨rfl,rfl⟩))
    go_ret
    exact ⟨rfl,B⟩
  ·have dy:decide (y=PI)=false:=decide_eq_false hi
   by_cases hp:0<x
   ·have e:sideK x y up=PI:=by
     unfold sideK
     by_cases h:y=0
     ·rw [if_pos h,if_pos hp]
     ·rw [if_neg h]
      rcases end9_case x y hx (by omega) (by have:=hy.2;omega) up with ⟨f1,_⟩|⟨f1,e⟩
      ·exact absurd ⟨f1,(show Fi y from ⟨by omega,by have:=hy.2;omega⟩)⟩ (hfin h)
      ·rw [e];omega
    rw [e]
    clear e gx gy hfin ff
    by_cases h:y=0
    ·have d0:decide (y=0)=true:=decide_eq_true h
     clear hz h hi
     cases vx<;>cases vy
     all_goals
      go_enter Tryz.func85,Tryz.ntmps85
      go_wp2_with (first|(go_at_call 45;(first|(with_reducible refine (FX.out _).mono ?_)|(with_reducible refine (FY.out _).mono ?_));rintro e wf ⟨rfl,hbf⟩;replace B:=below_step B B.size hbf;clear hbf)|(go_at_call 59;refine (refinf_any _).mono ?_;rintro e w' ⟨rfl,rfl⟩))
      go_ret
      exact ⟨rfl,B⟩
    ·have d0:decide (y=0)=false:=decide_eq_false h
     cases vx<;>cases vy
     all_goals first|(exact absurd (hz rfl rfl) h)|skip
     all_goals clear hz
     all_goals
      go_enter Tryz.func85,Tryz.ntmps85
      go_wp2_with (first|(go_at_call 45;(first|(with_reducible refine (FX.out _).mono ?_)|(with_reducible refine (FY.out _).mono ?_));rintro e wf ⟨rfl,hbf⟩;replace B:=below_step B B.size hbf;clear hbf)|(go_at_call 59;refine (refinf_any _).mono ?_;rintro e w' ⟨rfl,rfl⟩))
      go_ret
      exact ⟨rfl,B⟩
   ·have e:sideK x y up = -PI:=by
     unfold sideK
     by_cases h:y=0
     ·rw [if_pos h,if_neg hp]
     ·rw [if_neg h]
      rcases end9_case x y hx (by omega) (by have:=hy.2;omega) up with ⟨f1,_⟩|⟨f1,e⟩
      ·exact absurd ⟨f1,(show Fi y from ⟨by omega,by have:=hy.2;omega⟩)⟩ (hfin h)
      ·rw [e];omega
    rw [e]
    clear e gx gy hfin ff
    by_cases h:y=0
    ·have d0:decide (y=0)=true:=decide_eq_true h
     clear hz h hi
     cases vx<;>cases vy
     all_goals
      go_enter Tryz.func85,Tryz.ntmps85
      go_wp2_with (first|(go_at_call 45;(first|(with_reducible refine (FX.out _).mono ?_)|(with_reducible refine (FY.out _).mono ?_));rintro e wf ⟨rfl,hbf⟩;replace B:=below_step B B.size hbf;clear hbf)|(go_at_call 59;refine (refinf_any _).mono ?_;rintro e w' ⟨rfl,rfl⟩))
      go_ret
      exact ⟨rfl,B⟩
    ·have d0:decide (y=0)=false:=decide_eq_false h
     cases vx<;>cases vy
     all_goals first|(exact absurd (hz rfl rfl) h)|skip
     all_goals clear hz
     all_goals
      go_enter Tryz.func85,Tryz.ntmps85
      go_wp2_with (first|(go_at_call 45;(first|(with_reducible refine (FX.out _).mono ?_)|(with_reducible refine (FY.out _).mono ?_));rintro e wf ⟨rfl,hbf⟩;replace B:=below_step B B.size hbf;clear hbf)|(go_at_call 59;refine (refinf_any _).mono ?_;rintro e w' ⟨rfl,rfl⟩))
      go_ret
      exact ⟨rfl,B⟩
theorem tk_negw {a b:Int} (h:NE a b):tkLo (Op.negFloat .f64 (ofKey b)) (Op.negFloat .f64 (ofKey a)) = -b∧tkHi (Op.negFloat .f64 (ofKey b)) (Op.negFloat .f64 (ofKey a)) = -a:=by
 have n:=h.neg
 have g:good (Op.negFloat .f64 (ofKey b)) (Op.negFloat .f64 (ofKey a))=true:=by
  have n1 : ¬nan (Op.negFloat .f64 (ofKey b)):=by rw [nn_negk h.2.1];exact not_false
  have n2 : ¬nan (Op.negFloat .f64 (ofKey a)):=by rw [nn_negk h.1];exact not_false
  unfold good
  refine decide_eq_true ⟨n1,n2,.inr ?_⟩
  rw [k_negk h.1,k_negk h.2.1]
  exact n.2.2
 unfold tkLo tkHi
 rw [if_pos g,if_pos g,k_negk h.1,k_negk h.2.1];exact ⟨rfl,rfl⟩
theorem refflip_any (a b:Int) (h:NE a b) (w:World) :
  Calls Tryz.prog 84 #[.agg #[.float .f64 (ofKey (a)),.float .f64 (ofKey (b))]] w fun e w'=>e = .returned (.agg #[.float .f64 (ofKey (-b)),.float .f64 (ofKey (-a))])∧Below w.heap.size w w':=by
 have ha:=h.1
 have hb:=h.2.1
 have hT:=fun w=>reftaken_any (Op.negFloat .f64 (ofKey b)) (Op.negFloat .f64 (ofKey a)) (wd_negk hb) (wd_negk ha) w
 rw [(tk_negw h).1,(tk_negw h).2] at hT
 have TK:=Lib.hid hT
 clear hT
 go_enter Tryz.func84,Tryz.ntmps84
 go_wp2_with fail
 refine (TK.out _).mono ?_;rintro e w1 ⟨rfl,hb⟩
 have H:=Hold.i22.below hb;clear hb;have F:=H.f;dsimp only [Fac] at F
 go_wp2_with fail
 refine ((H.set 2 _).set 3 _).gob ?_;clear H F;intro wz H;dsimp only [upd] at H;have F:=H.f;dsimp only [Fac] at F
 refine bodyPost_ret (by simp [results,Tryz.results84,go_sem,F]) rfl ⟨rfl,?_⟩;exact H.B
end Go.Proofs.YteephgpefhodnaaGreat
