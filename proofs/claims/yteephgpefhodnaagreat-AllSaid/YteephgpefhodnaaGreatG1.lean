/- The document's Apply: side, flip. -/
import Derived.Test.YteephgpefhodnaaGreatQD
import Derived.Test.YteephgpefhodnaaGreatKA
namespace Go.Proofs.YteephgpefhodnaaGreat
open Go.RowKit Go.Sort Go.Fl
set_option linter.unusedSimpArgs false
set_option linter.unusedVariables false
theorem reff_k {x:Int} (h:Rg x):(Fi x → ∀ w,Calls Tryz.prog 45 #[.float .f64 (ofKey (x))] w fun e w'=>e = .returned (.bool true)∧Below w.heap.size w w')∧(¬Fi x → ∀ w,Calls Tryz.prog 45 #[.float .f64 (ofKey (x))] w fun e w'=>e = .returned (.bool false)∧Below w.heap.size w w'):=by
 refine ⟨fun f w=>reffin_yes _ (fin_ofKey f.1 f.2) w,fun f w=>reffin_no _ (fun g=>f ?_) w⟩
 have:=fin_key.1 g
 rw [key_ofKey h] at this
 exact this
theorem refround_k (o x y:Int) (up:Bool) (fx:Fi x) (fy:Fi y) (ho:o=6∨o=8∨(o=9∧y≠0)) (w:World):Calls Tryz.prog 18 #[.int .i64 o,.float .f64 (ofKey (x)),.float .f64 (ofKey (y)),.bool up] w fun e w'=>e = .returned (.float .f64 (ofKey (roundK o x y up)))∧Below w.heap.size w w':=by
 have h:=refround_any o (ofKey x) (ofKey y) up (ofKey_lt fx.rg) (ofKey_lt fy.rg) w
 rw [round_yes up ⟨fin_ofKey fx.1 fx.2,.inr ⟨fin_ofKey fy.1 fy.2,by rw [key_ofKey fy.rg];omega⟩⟩,key_ofKey fx.rg,key_ofKey fy.rg] at h
 exact h
theorem not_fi {x:Int} (h:Rg x) (hf : ¬Fi x):x=PI∨x = -PI:=by unfold Fi Rg at *;omega
set_option maxHeartbeats 1000000 in
theorem side_68 (o x y:Int) (up:Bool) (hx:Rg x) (hy:Rg y) (ho:(o=6 ∧ ¬(x=PI∧y = -PI) ∧ ¬(x = -PI∧y=PI))∨o=8) (w:World) :
  Calls Tryz.prog 85 #[.int .i64 o,.float .f64 (ofKey (x)),.float .f64 (ofKey (y)),.bool up] w fun e w'=>e = .returned (.float .f64 (ofKey (endK o x y up)))∧Below w.heap.size w w':=by
 have hP:=PI_pos
 have B:=Below.refl w.heap.size w
 by_cases fx:Fi x
 ·have FX:=Lib.hid ((reff_k hx).1 fx)
  by_cases fy:Fi y
  ·have FY:=Lib.hid ((reff_k hy).1 fy)
   have RD:=Lib.hid (refround_k o x y up fx fy (by omega))
   rw [endK_fi fx fy]
   have h9 : ¬o=9:=by omega
   have b9:(o==9)=false:=by rw [beq_eq_false_iff_ne];exact h9
   generalize roundK o x y up=k at *
   clear ho
   go_enter Tryz.func85,Tryz.ntmps85
   go_wp2_with (first|(go_at_call 45;(first|(with_reducible refine (FX.out _).mono ?_)|(with_reducible refine (FY.out _).mono ?_));rintro e wf ⟨rfl,hbf⟩;replace B:=below_step B B.size hbf;clear hbf)|(go_at_call 18;refine (RD.out _).mono ?_;rintro e wf ⟨rfl,hbf⟩;replace B:=below_step B B.size hbf;clear hbf))
   go_ret
   exact ⟨rfl,B⟩
  ·have FY:=Lib.hid ((reff_k hy).2 fy)
   have hy':=not_fi hy fy
   have hf : ¬(-PI<x∧x<PI ∧ -PI<y∧y<PI):=by unfold Fi at fx;omega
   rcases ho with ⟨rfl,h1,h2⟩|rfl
   ·have he:endK 6 x y up=if x=PI∨y=PI then PI else -PI:=by unfold endK;rw [if_neg hf,if_neg (by omega),if_pos rfl]
    have hs:=fun (w:World) (t:TypeId)=>run_float_arith (P := Tryz.prog) w .add t .f64 _ _ _ (add_infk hx hy (by omega) h1 h2)
    rw [he]
    clear he
    generalize (if x=PI∨y=PI then PI else -PI)=k at *
    clear hf h1 h2 hy'
    go_enter Tryz.func85,Tryz.ntmps85
    go_wp2_with (go_at_call 45;(first|(with_reducible refine (FX.out _).mono ?_)|(with_reducible refine (FY.out _).mono ?_));rintro e wf ⟨rfl,hbf⟩;replace B:=below_step B B.size hbf;clear hbf)
    go_ret
    exact ⟨rfl,B⟩
   ·have he:endK 8 x y up=if x=0∨y=0 then 0 else infSign x y:=by unfold endK;rw [if_neg hf,if_pos rfl]
    rw [he]
    clear he
    have y0 : ¬y=0:=by omega
    by_cases h0:x=0
    ·rw [if_pos (.inl h0)]
     have d1:decide (x=0)=true:=decide_eq_true h0
     clear hf hy' h0 y0 fx
     go_enter Tryz.func85,Tryz.ntmps85
     go_wp2_with (go_at_call 45;(first|(with_reducible refine (FX.out _).mono ?_)|(with_reducible refine (FY.out _).mono ?_));rintro e wf ⟨rfl,hbf⟩;replace B:=below_step B B.size hbf;clear hbf)
     go_ret
     exact ⟨rfl,B⟩
    ·rw [if_neg (by omega)]
     have hs:=fun (w:World) (t:TypeId)=>run_float_arith (P := Tryz.prog) w .mul t .f64 _ _ _ (mul_infk hx hy (by omega) h0 y0)
     clear hf hy'
     go_enter Tryz.func85,Tryz.ntmps85
     go_wp2_with (go_at_call 45;(first|(with_reducible refine (FX.out _).mono ?_)|(with_reducible refine (FY.out _).mono ?_));rintro e wf ⟨rfl,hbf⟩;replace B:=below_step B B.size hbf;clear hbf)
     go_ret
     exact ⟨rfl,B⟩
 ·have FX:=Lib.hid ((reff_k hx).2 fx)
  have hx':=not_fi hx fx
  have hf : ¬(-PI<x∧x<PI ∧ -PI<y∧y<PI):=by unfold Fi at fx;omega
  have HY : ∃ v,∀ w,Calls Tryz.prog 45 #[.float .f64 (ofKey (y))] w fun e w'=>e = .returned (.bool v)∧Below w.heap.size w w':=by
   by_cases fy:Fi y
   ·exact ⟨true,(reff_k hy).1 fy⟩
   ·exact ⟨false,(reff_k hy).2 fy⟩
  obtain ⟨v,hv⟩:=HY
  have FY:=Lib.hid hv
  clear hv
  rcases ho with ⟨rfl,h1,h2⟩|rfl
  ·have he:endK 6 x y up=if x=PI∨y=PI then PI else -PI:=by unfold endK;rw [if_neg hf,if_neg (by omega),if_pos rfl]
   have hs:=fun (w:World) (t:TypeId)=>run_float_arith (P := Tryz.prog) w .add t .f64 _ _ _ (add_infk hx hy (by omega) h1 h2)
   rw [he]
   clear he
   generalize (if x=PI∨y=PI then PI else -PI)=k at *
   clear hf h1 h2 hx'
   go_enter Tryz.func85,Tryz.ntmps85
   go_wp2_with (go_at_call 45;(first|(with_reducible refine (FX.out _).mono ?_)|(with_reducible refine (FY.out _).mono ?_));rintro e wf ⟨rfl,hbf⟩;replace B:=below_step B B.size hbf;clear hbf)
   go_ret
   exact ⟨rfl,B⟩
  ·have he:endK 8 x y up=if x=0∨y=0 then 0 else infSign x y:=by unfold endK;rw [if_neg hf,if_pos rfl]
   rw [he]
   clear he
   have x0 : ¬x=0:=by omega
   by_cases h0:y=0
   ·rw [if_pos (.inr h0)]
    have d2:decide (y=0)=true:=decide_eq_true h0
    have d1:decide (x=0)=false:=decide_eq_false x0
    clear hf hx' h0 x0
    go_enter Tryz.func85,Tryz.ntmps85
    go_wp2_with (go_at_call 45;(first|(with_reducible refine (FX.out _).mono ?_)|(with_reducible refine (FY.out _).mono ?_));rintro e wf ⟨rfl,hbf⟩;replace B:=below_step B B.size hbf;clear hbf)
    go_ret
    exact ⟨rfl,B⟩
   ·rw [if_neg (by omega)]
    have hs:=fun (w:World) (t:TypeId)=>run_float_arith (P := Tryz.prog) w .mul t .f64 _ _ _ (mul_infk hx hy (by omega) x0 h0)
    clear hf hx'
    go_enter Tryz.func85,Tryz.ntmps85
    go_wp2_with (go_at_call 45;(first|(with_reducible refine (FX.out _).mono ?_)|(with_reducible refine (FY.out _).mono ?_));rintro e wf ⟨rfl,hbf⟩;replace B:=below_step B B.size hbf;clear hbf)
    go_ret
    exact ⟨rfl,B⟩
end Go.Proofs.YteephgpefhodnaaGreat
