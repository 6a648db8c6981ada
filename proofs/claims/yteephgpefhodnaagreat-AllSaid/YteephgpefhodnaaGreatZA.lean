/- The walks of Nexts, Builds, Relates, Rounds. -/
import Derived.Test.YteephgpefhodnaaGreatA3
import Derived.Test.YteephgpefhodnaaGreatAA
import Derived.Test.YteephgpefhodnaaGreatA6
import Derived.Test.YteephgpefhodnaaGreatQD
import Derived.ProofKit
import Derived.OpenShut
namespace Go.Proofs.YteephgpefhodnaaGreat.nexts
open Go.RowKit Go.Sort Go.Fl Go.ChangeShapes Go.WideShapes Go.ChangeAt
set_option linter.unusedSimpArgs false
set_option linter.unusedVariables false
theorem walk (a0:Int) (w0:(Lit.int .u64 a0).wf=true) (w:World) :
  Calls Tryz.prog 4 #[.int .u64 a0] w fun e w'=>e = .returned (.bool true)∧Below w.heap.size w w':=by
 have hw:=wd_of w0
 by_cases hx:nan a0.toNat
 ·go_enter Tryz.func4,Tryz.ntmps4
  go_wp2_with (first|(go_at_call 11;refine (lawof_any _ _).mono ?_;rintro e w' ⟨rfl,rfl⟩)|(go_at_call 12;refine (spansup_nan _ hx _).mono ?_;rintro e w1 ⟨r1,n1,x1,rfl,B1⟩)|(go_at_call 13;refine (spansdown_nan _ hx hw _).mono ?_;rintro e w2 ⟨r2,n2,x2,rfl,B2⟩)|(go_at_call 14;refine (refup_nan _ hx _).mono ?_;rintro e w' ⟨rfl,rfl⟩)|(go_at_call 15;refine (refdown_nan _ hx hw _).mono ?_;rintro e w3 ⟨r3,n3,x3,rfl,B3⟩)|(go_at_call 16;refine (same_nan _ _ (by assumption) (by assumption) _).mono ?_;rintro e w' ⟨rfl,rfl⟩))
  go_ret
  exact ⟨rfl,below_step (below_step B1 B1.size B2) (below_step B1 B1.size B2).size B3⟩
 ·go_enter Tryz.func4,Tryz.ntmps4
  go_wp2_with (first|(go_at_call 11;refine (lawof_any _ _).mono ?_;rintro e w' ⟨rfl,rfl⟩)|(go_at_call 12;refine (spansup_any _ hx hw _).mono ?_;rintro e w' ⟨rfl,rfl⟩)|(go_at_call 13;refine (spansdown_any _ hx hw _).mono ?_;rintro e w' ⟨rfl,rfl⟩)|(go_at_call 14;refine (refup_any _ hx hw _).mono ?_;rintro e w' ⟨rfl,rfl⟩)|(go_at_call 15;refine (refdown_any _ hx hw _).mono ?_;rintro e w' ⟨rfl,rfl⟩)|(go_at_call 16;refine (same_refl _ _).mono ?_;rintro e w' ⟨rfl,rfl⟩))
  go_ret
  exact ⟨rfl,Below.refl _ _⟩
end Go.Proofs.YteephgpefhodnaaGreat.nexts
namespace Go.Proofs.YteephgpefhodnaaGreat.builds
open Go.RowKit Go.Sort Go.Fl Go.ChangeShapes Go.WideShapes Go.ChangeAt
set_option linter.unusedSimpArgs false
set_option linter.unusedVariables false
theorem walk (a0 a1:Int) (w0:(Lit.int .u64 a0).wf=true) (w1:(Lit.int .u64 a1).wf=true) (w:World) :
  Calls Tryz.prog 6 #[.int .u64 a0,.int .u64 a1] w fun e w'=>e = .returned (.bool true)∧Below w.heap.size w w':=by
 have ha:=wd_of w0
 have hb:=wd_of w1
 have ra:=(tk_iv a0.toNat a1.toNat).1
 have rb:=(tk_iv a0.toNat a1.toNat).2.1
 go_enter Tryz.func6,Tryz.ntmps6
 go_wp2_with (first|(go_at_call 11;refine (lawof_any _ _).mono ?_;rintro e w' ⟨rfl,rfl⟩)|(go_at_call 19;refine (new_any _ _ ha hb _).mono ?_;rintro e x1 ⟨rfl,hbx1⟩;have B1:=hbx1)|(go_at_call 20;refine (refnew_any _ _ ha hb _).mono ?_;rintro e x2 ⟨rfl,hbx2⟩;have hz:x1.heap.size<x2.heap.size:=Nat.lt_of_lt_of_le (by simp) hbx2.size;have c0:=RowKit.Below.cells hbx2 (b:=x1.heap.size) (o:=0) (v := .float .f64 (ofKey (tkLo a0.toNat a1.toNat))) (by simp);have c1:=RowKit.Below.cells hbx2 (b:=x1.heap.size) (o:=1) (v := .float .f64 (ofKey (tkHi a0.toNat a1.toNat))) (by simp))|(go_at_call 21;refine (alike_refl _ _ ra rb _).mono ?_;rintro e x3 ⟨rfl,hbx3⟩;skip))
 have B2:=below_step B1 B1.size (below_alloc hbx2)
 have B3:=below_step B2 B2.size (below_alloc hbx3)
 go_ret
 exact ⟨ret_b (by simp),B3⟩
end Go.Proofs.YteephgpefhodnaaGreat.builds
namespace Go.Proofs.YteephgpefhodnaaGreat.relates
open Go.RowKit Go.Sort Go.Fl Go.ChangeShapes Go.WideShapes Go.ChangeAt
set_option linter.unusedSimpArgs false
set_option linter.unusedVariables false
set_option maxRecDepth 100000 in
set_option maxHeartbeats 2000000 in
theorem walk (a0 a1 a2 a3 a4:Int) (w0:(Lit.int .u64 a0).wf=true) (w1:(Lit.int .u64 a1).wf=true) (w2:(Lit.int .u64 a2).wf=true) (w3:(Lit.int .u64 a3).wf=true) (w4:(Lit.int .i64 a4).wf=true) (w:World) :
  Calls Tryz.prog 8 #[.int .u64 a0,.int .u64 a1,.int .u64 a2,.int .u64 a3,.int .i64 a4] w fun e w'=>e = .returned (.bool true)∧Below w.heap.size w w':=by
 have ha:=wd_of w0
 have hb:=wd_of w1
 have hc:=wd_of w2
 have hd:=wd_of w3
 clear w0 w1 w2 w3 w4
 go_enter Tryz.func8,Tryz.ntmps8
 go_wp2_with (go_at_call 11;refine (lawof_any _ _).mono ?_;rintro e w' ⟨rfl,rfl⟩)
 go_loopw [13] (fun k wr => ∃ n:Int,-1≤n∧n≤8∧k = .int .i64 n∧wr.cell? ⟨w.heap.size,0,none⟩=some (.float .f64 a0.toNat)∧wr.cell? ⟨w.heap.size,1,none⟩=some (.float .f64 a1.toNat)∧wr.cell? ⟨w.heap.size+1,0,none⟩=some (.float .f64 a2.toNat)∧wr.cell? ⟨w.heap.size+1,1,none⟩=some (.float .f64 a3.toNat)∧Below w.heap.size w wr∧w.heap.size+1<wr.heap.size) (fun k _=>(8-intOf k).toNat)
 case atStart=>exact ⟨-1,by omega,by omega,rfl,by simp [go_sem],by simp [go_sem],by simp [go_sem],by simp [go_sem],by go_grown,by simp⟩
 case round =>
  obtain ⟨n,hn1,hn2,rfl,F00,F01,F10,F11,B3,z3⟩:=hrel
  by_cases hlt:n<8
  ·by_cases h0:n<0
   all_goals go_wp2_with (first|(go_at_call 24;refine (spansis_any _ _ _ _ _ ha hb hc hd _).mono ?_;rintro e wn ⟨rfl,hbn⟩;replace F00:=hbn.cells F00;replace F01:=hbn.cells F01;replace F10:=hbn.cells F10;replace F11:=hbn.cells F11;replace B3:=below_step B3 B3.size hbn;replace z3:=Nat.lt_of_lt_of_le z3 hbn.size;clear hbn)|(go_at_call 25;refine (refis_any _ _ _ _ _ ha hb hc hd _).mono ?_;rintro e wn ⟨rfl,hbn⟩;replace F00:=hbn.cells F00;replace F01:=hbn.cells F01;replace F10:=hbn.cells F10;replace F11:=hbn.cells F11;replace B3:=below_step B3 B3.size hbn;replace z3:=Nat.lt_of_lt_of_le z3 hbn.size;clear hbn))
   all_goals
    go_roundw
    case rel=>exact ⟨n+1,by omega,by omega,rfl,F00,F01,F10,F11,B3,z3⟩
    case measure=>simp [intOf];omega
  ·have rm:=meet_rg (tk_iv a0.toNat a1.toNat) (tk_iv a2.toNat a3.toNat)
   have rh:=hull_iv (tk_iv a0.toNat a1.toNat) (tk_iv a2.toNat a3.toNat)
   have z0:w.heap.size<wr.heap.size:=by omega
   go_wp2_with fail
   refine (spansmeet_any _ _ _ _ ha hb hc hd _).mono ?_
   rintro e x4 ⟨rfl,hx4⟩
   replace F00:=RowKit.Below.cells hx4 (b:=w.heap.size) (o:=0) (v := .float .f64 a0.toNat) (by first|exact F00|simp [go_sem,F00,F01,F10,F11,z0,z3])
   replace F01:=RowKit.Below.cells hx4 (b:=w.heap.size) (o:=1) (v := .float .f64 a1.toNat) (by first|exact F01|simp [go_sem,F00,F01,F10,F11,z0,z3])
   replace F10:=RowKit.Below.cells hx4 (b:=w.heap.size+1) (o:=0) (v := .float .f64 a2.toNat) (by first|exact F10|simp [go_sem,F00,F01,F10,F11,z0,z3])
   replace F11:=RowKit.Below.cells hx4 (b:=w.heap.size+1) (o:=1) (v := .float .f64 a3.toNat) (by first|exact F11|simp [go_sem,F00,F01,F10,F11,z0,z3])
   have Bx4:=below_step B3 B3.size hx4
   have sx4:=hx4.size
   replace z0:=Nat.lt_of_lt_of_le z0 (show _≤x4.heap.size by omega)
   replace z3:=Nat.lt_of_lt_of_le z3 (show _≤x4.heap.size by omega)
   clear hx4 sx4
   have Mx40:True:=trivial
   have Mx41:True:=trivial
   go_wp2_with fail
   refine (refmeet_any _ _ _ _ ha hb hc hd _).mono ?_
   rintro e x5 ⟨rfl,hx5⟩
   replace F00:=RowKit.Below.cells hx5 (b:=w.heap.size) (o:=0) (v := .float .f64 a0.toNat) (by first|exact F00|simp [go_sem,F00,F01,F10,F11,Mx40,Mx41,z0,z3])
   replace F01:=RowKit.Below.cells hx5 (b:=w.heap.size) (o:=1) (v := .float .f64 a1.toNat) (by first|exact F01|simp [go_sem,F00,F01,F10,F11,Mx40,Mx41,z0,z3])
   replace F10:=RowKit.Below.cells hx5 (b:=w.heap.size+1) (o:=0) (v := .float .f64 a2.toNat) (by first|exact F10|simp [go_sem,F00,F01,F10,F11,Mx40,Mx41,z0,z3])
   replace F11:=RowKit.Below.cells hx5 (b:=w.heap.size+1) (o:=1) (v := .float .f64 a3.toNat) (by first|exact F11|simp [go_sem,F00,F01,F10,F11,Mx40,Mx41,z0,z3])
   replace Mx40:=RowKit.Below.cells hx5 (b:=x4.heap.size) (o:=0) (v := .float .f64 (ofKey (meetLo (tkLo a0.toNat a1.toNat) (tkHi a0.toNat a1.toNat) (tkLo a2.toNat a3.toNat) (tkHi a2.toNat a3.toNat)))) (by first|exact Mx40|simp [go_sem,F00,F01,F10,F11,Mx40,Mx41,z0,z3])
   replace Mx41:=RowKit.Below.cells hx5 (b:=x4.heap.size) (o:=1) (v := .float .f64 (ofKey (meetHi (tkLo a0.toNat a1.toNat) (tkHi a0.toNat a1.toNat) (tkLo a2.toNat a3.toNat) (tkHi a2.toNat a3.toNat)))) (by first|exact Mx41|simp [go_sem,F00,F01,F10,F11,Mx40,Mx41,z0,z3])
   have Bx5:=below_step Bx4 Bx4.size (below_alloc hx5)
   have sx5:=hx5.size
   rw [World.size_alloc] at sx5
   replace z0:=Nat.lt_of_lt_of_le z0 (show _≤x5.heap.size by omega)
   replace z3:=Nat.lt_of_lt_of_le z3 (show _≤x5.heap.size by omega)
   have yx4:x4.heap.size<x5.heap.size:=by omega
   clear hx5 sx5
   have Mx50:True:=trivial
   have Mx51:True:=trivial
   go_wp2_with fail
   refine (spanshull_any _ _ _ _ ha hb hc hd _).mono ?_
   rintro e x6 ⟨rfl,hx6⟩
   replace F00:=RowKit.Below.cells hx6 (b:=w.heap.size) (o:=0) (v := .float .f64 a0.toNat) (by first|exact F00|simp [go_sem,F00,F01,F10,F11,Mx40,Mx41,Mx50,Mx51,z0,z3,yx4])
   replace F01:=RowKit.Below.cells hx6 (b:=w.heap.size) (o:=1) (v := .float .f64 a1.toNat) (by first|exact F01|simp [go_sem,F00,F01,F10,F11,Mx40,Mx41,Mx50,Mx51,z0,z3,yx4])
   replace F10:=RowKit.Below.cells hx6 (b:=w.heap.size+1) (o:=0) (v := .float .f64 a2.toNat) (by first|exact F10|simp [go_sem,F00,F01,F10,F11,Mx40,Mx41,Mx50,Mx51,z0,z3,yx4])
   replace F11:=RowKit.Below.cells hx6 (b:=w.heap.size+1) (o:=1) (v := .float .f64 a3.toNat) (by first|exact F11|simp [go_sem,F00,F01,F10,F11,Mx40,Mx41,Mx50,Mx51,z0,z3,yx4])
   replace Mx40:=RowKit.Below.cells hx6 (b:=x4.heap.size) (o:=0) (v := .float .f64 (ofKey (meetLo (tkLo a0.toNat a1.toNat) (tkHi a0.toNat a1.toNat) (tkLo a2.toNat a3.toNat) (tkHi a2.toNat a3.toNat)))) (by first|exact Mx40|simp [go_sem,F00,F01,F10,F11,Mx40,Mx41,Mx50,Mx51,z0,z3,yx4])
   replace Mx41:=RowKit.Below.cells hx6 (b:=x4.heap.size) (o:=1) (v := .float .f64 (ofKey (meetHi (tkLo a0.toNat a1.toNat) (tkHi a0.toNat a1.toNat) (tkLo a2.toNat a3.toNat) (tkHi a2.toNat a3.toNat)))) (by first|exact Mx41|simp [go_sem,F00,F01,F10,F11,Mx40,Mx41,Mx50,Mx51,z0,z3,yx4])
   replace Mx50:=RowKit.Below.cells hx6 (b:=x5.heap.size) (o:=0) (v := .float .f64 (ofKey (meetLo (tkLo a0.toNat a1.toNat) (tkHi a0.toNat a1.toNat) (tkLo a2.toNat a3.toNat) (tkHi a2.toNat a3.toNat)))) (by first|exact Mx50|simp [go_sem,F00,F01,F10,F11,Mx40,Mx41,Mx50,Mx51,z0,z3,yx4])
   replace Mx51:=RowKit.Below.cells hx6 (b:=x5.heap.size) (o:=1) (v := .float .f64 (ofKey (meetHi (tkLo a0.toNat a1.toNat) (tkHi a0.toNat a1.toNat) (tkLo a2.toNat a3.toNat) (tkHi a2.toNat a3.toNat)))) (by first|exact Mx51|simp [go_sem,F00,F01,F10,F11,Mx40,Mx41,Mx50,Mx51,z0,z3,yx4])
   have Bx6:=below_step Bx5 Bx5.size (below_alloc hx6)
   have sx6:=hx6.size
   rw [World.size_alloc] at sx6
   replace z0:=Nat.lt_of_lt_of_le z0 (show _≤x6.heap.size by omega)
   replace z3:=Nat.lt_of_lt_of_le z3 (show _≤x6.heap.size by omega)
   replace yx4:=Nat.lt_of_lt_of_le yx4 (show _≤x6.heap.size by omega)
   have yx5:x5.heap.size<x6.heap.size:=by omega
   clear hx6 sx6
   have Mx60:True:=trivial
   have Mx61:True:=trivial
   go_wp2_with fail
   refine (refhull_any _ _ _ _ ha hb hc hd _).mono ?_
   rintro e x7 ⟨rfl,hx7⟩
   replace F00:=RowKit.Below.cells hx7 (b:=w.heap.size) (o:=0) (v := .float .f64 a0.toNat) (by first|exact F00|simp [go_sem,F00,F01,F10,F11,Mx40,Mx41,Mx50,Mx51,Mx60,Mx61,z0,z3,yx4,yx5])
   replace F01:=RowKit.Below.cells hx7 (b:=w.heap.size) (o:=1) (v := .float .f64 a1.toNat) (by first|exact F01|simp [go_sem,F00,F01,F10,F11,Mx40,Mx41,Mx50,Mx51,Mx60,Mx61,z0,z3,yx4,yx5])
   replace F10:=RowKit.Below.cells hx7 (b:=w.heap.size+1) (o:=0) (v := .float .f64 a2.toNat) (by first|exact F10|simp [go_sem,F00,F01,F10,F11,Mx40,Mx41,Mx50,Mx51,Mx60,Mx61,z0,z3,yx4,yx5])
   replace F11:=RowKit.Below.cells hx7 (b:=w.heap.size+1) (o:=1) (v := .float .f64 a3.toNat) (by first|exact F11|simp [go_sem,F00,F01,F10,F11,Mx40,Mx41,Mx50,Mx51,Mx60,Mx61,z0,z3,yx4,yx5])
   replace Mx40:=RowKit.Below.cells hx7 (b:=x4.heap.size) (o:=0) (v := .float .f64 (ofKey (meetLo (tkLo a0.toNat a1.toNat) (tkHi a0.toNat a1.toNat) (tkLo a2.toNat a3.toNat) (tkHi a2.toNat a3.toNat)))) (by first|exact Mx40|simp [go_sem,F00,F01,F10,F11,Mx40,Mx41,Mx50,Mx51,Mx60,Mx61,z0,z3,yx4,yx5])
   replace Mx41:=RowKit.Below.cells hx7 (b:=x4.heap.size) (o:=1) (v := .float .f64 (ofKey (meetHi (tkLo a0.toNat a1.toNat) (tkHi a0.toNat a1.toNat) (tkLo a2.toNat a3.toNat) (tkHi a2.toNat a3.toNat)))) (by first|exact Mx41|simp [go_sem,F00,F01,F10,F11,Mx40,Mx41,Mx50,Mx51,Mx60,Mx61,z0,z3,yx4,yx5])
   replace Mx50:=RowKit.Below.cells hx7 (b:=x5.heap.size) (o:=0) (v := .float .f64 (ofKey (meetLo (tkLo a0.toNat a1.toNat) (tkHi a0.toNat a1.toNat) (tkLo a2.toNat a3.toNat) (tkHi a2.toNat a3.toNat)))) (by first|exact Mx50|simp [go_sem,F00,F01,F10,F11,Mx40,Mx41,Mx50,Mx51,Mx60,Mx61,z0,z3,yx4,yx5])
   replace Mx51:=RowKit.Below.cells hx7 (b:=x5.heap.size) (o:=1) (v := .float .f64 (ofKey (meetHi (tkLo a0.toNat a1.toNat) (tkHi a0.toNat a1.toNat) (tkLo a2.toNat a3.toNat) (tkHi a2.toNat a3.toNat)))) (by first|exact Mx51|simp [go_sem,F00,F01,F10,F11,Mx40,Mx41,Mx50,Mx51,Mx60,Mx61,z0,z3,yx4,yx5])
   replace Mx60:=RowKit.Below.cells hx7 (b:=x6.heap.size) (o:=0) (v := .float .f64 (ofKey (min (tkLo a0.toNat a1.toNat) (tkLo a2.toNat a3.toNat)))) (by first|exact Mx60|simp [go_sem,F00,F01,F10,F11,Mx40,Mx41,Mx50,Mx51,Mx60,Mx61,z0,z3,yx4,yx5])
   replace Mx61:=RowKit.Below.cells hx7 (b:=x6.heap.size) (o:=1) (v := .float .f64 (ofKey (max (tkHi a0.toNat a1.toNat) (tkHi a2.toNat a3.toNat)))) (by first|exact Mx61|simp [go_sem,F00,F01,F10,F11,Mx40,Mx41,Mx50,Mx51,Mx60,Mx61,z0,z3,yx4,yx5])
   have Bx7:=below_step Bx6 Bx6.size (below_alloc hx7)
   have sx7:=hx7.size
   rw [World.size_alloc] at sx7
   replace z0:=Nat.lt_of_lt_of_le z0 (show _≤x7.heap.size by omega)
   replace z3:=Nat.lt_of_lt_of_le z3 (show _≤x7.heap.size by omega)
   replace yx4:=Nat.lt_of_lt_of_le yx4 (show _≤x7.heap.size by omega)
   replace yx5:=Nat.lt_of_lt_of_le yx5 (show _≤x7.heap.size by omega)
   have yx6:x6.heap.size<x7.heap.size:=by omega
   clear hx7 sx7
   have Mx70:True:=trivial
   have Mx71:True:=trivial
   go_wp2_with fail
   refine (alike_refl _ _ rm.1 rm.2 _).mono ?_
   rintro e x8 ⟨rfl,h8⟩
   replace Mx60:=RowKit.Below.cells h8 (b:=x6.heap.size) (o:=0) (v := .float .f64 (ofKey (min (tkLo a0.toNat a1.toNat) (tkLo a2.toNat a3.toNat)))) (by simp [go_sem,Mx60,yx6])
   replace Mx61:=RowKit.Below.cells h8 (b:=x6.heap.size) (o:=1) (v := .float .f64 (ofKey (max (tkHi a0.toNat a1.toNat) (tkHi a2.toNat a3.toNat)))) (by simp [go_sem,Mx61,yx6])
   have M70:=RowKit.Below.cells h8 (b:=x7.heap.size) (o:=0) (v := .float .f64 (ofKey (min (tkLo a0.toNat a1.toNat) (tkLo a2.toNat a3.toNat)))) (by simp [go_sem])
   have M71:=RowKit.Below.cells h8 (b:=x7.heap.size) (o:=1) (v := .float .f64 (ofKey (max (tkHi a0.toNat a1.toNat) (tkHi a2.toNat a3.toNat)))) (by simp [go_sem])
   go_wp2_with fail
   refine (alike_refl _ _ rh.1 rh.2.1 _).mono ?_
   rintro e x9 ⟨rfl,h9⟩
   go_wp2_with fail
   go_ret
   exact ⟨rfl,below_step (below_step Bx7 Bx7.size (below_alloc h8)) (below_step Bx7 Bx7.size (below_alloc h8)).size h9⟩
end Go.Proofs.YteephgpefhodnaaGreat.relates
namespace Go.Proofs.YteephgpefhodnaaGreat.rounds
open Go.RowKit Go.Sort Go.Fl Go.ChangeShapes Go.WideShapes Go.ChangeAt
set_option linter.unusedSimpArgs false
set_option linter.unusedVariables false
theorem walk (a0 a1 a2:Int) (w0:(Lit.int .u64 a0).wf=true) (w1:(Lit.int .u64 a1).wf=true) (w2:(Lit.int .i64 a2).wf=true) (w:World) :
  Calls Tryz.prog 5 #[.int .u64 a0,.int .u64 a1,.int .i64 a2] w fun e w'=>e = .returned (.bool true)∧Below w.heap.size w w':=by
 have ha:=wd_of w0
 have hb:=wd_of w1
 clear w0 w1 w2
 have OA:=Lib.hid (lawof_any a0)
 have OB:=Lib.hid (lawof_any a1)
 generalize a0.toNat=x at *
 generalize a1.toNat=y at *
 go_enter Tryz.func5,Tryz.ntmps5
 go_wp2_with (go_at_call 11;(first|(with_reducible refine (OA.out _).mono ?_)|(with_reducible refine (OB.out _).mono ?_));rintro e w' ⟨rfl,rfl⟩)
 go_loopw [9] (fun k wr => ∃ n:Int,-1≤n∧n≤16∧k = .int .i64 n∧Below w.heap.size w wr) (fun k _=>(16-intOf k).toNat)
 case atStart=>exact ⟨-1,by omega,by omega,rfl,Below.refl _ _⟩
 case round =>
  obtain ⟨n,hn1,hn2,rfl,B⟩:=hrel
  by_cases hlt:n<16
  ·by_cases h0:n<0
   all_goals go_wp2_with (first|(go_at_call 17;refine (spansround_any _ _ _ _ ha hb _).mono ?_;rintro e wn ⟨rfl,hbn⟩;replace B:=below_step B B.size hbn;clear hbn)|(go_at_call 18;refine (refround_any _ _ _ _ ha hb _).mono ?_;rintro e wn ⟨rfl,hbn⟩;replace B:=below_step B B.size hbn;clear hbn)|(go_at_call 16;refine (same_refl _ _).mono ?_;rintro e w' ⟨rfl,rfl⟩))
   all_goals
    go_roundw
    case rel=>exact ⟨n+1,by omega,by omega,rfl,B⟩
    case measure=>simp [intOf];omega
  ·go_wp2
   go_ret
   exact ⟨rfl,B⟩
end Go.Proofs.YteephgpefhodnaaGreat.rounds
