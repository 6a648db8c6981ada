/- The walk of Applies. -/
import Derived.Test.YteephgpefhodnaaGreatG6
import Derived.ProofKit
import Derived.OpenShut
namespace Go.Proofs.YteephgpefhodnaaGreat.applies
open Go.RowKit Go.Sort Go.Fl Go.ChangeShapes Go.WideShapes Go.ChangeAt
set_option linter.unusedSimpArgs false
set_option linter.unusedVariables false
set_option maxRecDepth 4000 in
set_option maxHeartbeats 2000000 in
theorem walk (a0 a1 a2 a3 a4:Int) (w0:(Lit.int .u64 a0).wf=true) (w1:(Lit.int .u64 a1).wf=true) (w2:(Lit.int .u64 a2).wf=true) (w3:(Lit.int .u64 a3).wf=true) (w4:(Lit.int .i64 a4).wf=true) (w:World) :
  Calls Tryz.prog 7 #[.int .u64 a0,.int .u64 a1,.int .u64 a2,.int .u64 a3,.int .i64 a4] w fun e w'=>e = .returned (.bool true)∧Below w.heap.size w w':=by
 have ha:=wd_of w0
 have hb:=wd_of w1
 have hc:=wd_of w2
 have hd:=wd_of w3
 clear w0 w1 w2 w3 w4
 have O0:=Lib.hid (lawof_any a0);have O1:=Lib.hid (lawof_any a1);have O2:=Lib.hid (lawof_any a2);have O3:=Lib.hid (lawof_any a3)
 generalize a0.toNat=x0 at *
 generalize a1.toNat=x1 at *
 generalize a2.toNat=x2 at *
 generalize a3.toNat=x3 at *
 have ap:=fun o w=>spansapply_any o x0 x1 x2 x3 ha hb hc hd w
 have rp:=fun o w=>refapply_any o x0 x1 x2 x3 ha hb hc hd w
 have iv:=fun o=>ap_iv o _ _ _ _ (tk_iv x0 x1).1 (tk_iv x0 x1).2.1 (tk_iv x2 x3).1 (tk_iv x2 x3).2.1
 obtain ⟨P,hP⟩ : ∃ P:Int→Int,P=fun o=>apLo o (tkLo x0 x1) (tkHi x0 x1) (tkLo x2 x3) (tkHi x2 x3):=⟨_,rfl⟩
 obtain ⟨Q,hQ⟩ : ∃ Q:Int→Int,Q=fun o=>apHi o (tkLo x0 x1) (tkHi x0 x1) (tkLo x2 x3) (tkHi x2 x3):=⟨_,rfl⟩
 have eP : ∀ o,apLo o (tkLo x0 x1) (tkHi x0 x1) (tkLo x2 x3) (tkHi x2 x3)=P o:=fun o=>by rw [hP]
 have eQ : ∀ o,apHi o (tkLo x0 x1) (tkHi x0 x1) (tkLo x2 x3) (tkHi x2 x3)=Q o:=fun o=>by rw [hQ]
 simp only [eP,eQ] at ap rp iv
 have AL:=Lib.hid (fun o w=>alike_refl (P o) (Q o) (iv o).1 (iv o).2.1 w)
 have AP:=Lib.hid ap
 have RP:=Lib.hid rp
 clear ap rp iv eP eQ hP hQ ha hb hc hd
 go_enter Tryz.func7,Tryz.ntmps7
 go_wp2_with (go_at_call 11;(first|(with_reducible refine (O0.out _).mono ?_)|(with_reducible refine (O1.out _).mono ?_)|(with_reducible refine (O2.out _).mono ?_)|(with_reducible refine (O3.out _).mono ?_));rintro e w' ⟨rfl,rfl⟩)
 refine Hold.i22.go ?_;intro wl H;have F:=H.f;dsimp only [Fac] at F
 clear F
 go_loopw [13] (fun k wr => ∃ n:Int,-1≤n∧n≤14∧k = .int .i64 n∧Hold w wr [(w.heap.size,0,.float .f64 (x0)),(w.heap.size,1,.float .f64 (x1)),(w.heap.size+1,0,.float .f64 (x2)),(w.heap.size+1,1,.float .f64 (x3))]) (fun k _=>(14-intOf k).toNat)
 case atStart=>exact ⟨-1,by omega,by omega,rfl,H⟩
 case round =>
  clear H
  obtain ⟨n,hn1,hn2,rfl,H⟩:=hrel
  have F:=H.f;dsimp only [Fac] at F
  by_cases hlt:n<14
  ·by_cases h0:n<0
   ·go_wp2_with fail
    refine (AP.out _ _).mono ?_;rintro e wp ⟨rfl,hb⟩
    replace H:=H.below hb;clear hb;replace F:=H.f;dsimp only [Fac] at F
    go_wp2_with fail
    refine (RP.out _ _).mono ?_;rintro e wq ⟨rfl,hb⟩
    have n1:=H.lt;dsimp only [Lts] at n1
    replace H:=(H.new2 _ _ _).below hb;dsimp only [add] at H;clear hb;replace F:=H.f;dsimp only [Fac] at F
    go_wp2_with fail
    refine (AL.out _ _).mono ?_;rintro e wz ⟨rfl,hb⟩
    have n2:=H.lt;dsimp only [Lts] at n2
    replace H:=(H.new2 _ _ _).below hb;dsimp only [add] at H;clear hb;replace F:=H.f;dsimp only [Fac] at F
    go_wp2_with fail
    go_roundw
    case rel=>exact ⟨n+1,by omega,by omega,rfl,H.cut 4⟩
    case measure=>simp [intOf];omega
   ·go_wp2_with fail
    refine (AP.out _ _).mono ?_;rintro e wp ⟨rfl,hb⟩
    replace H:=H.below hb;clear hb;replace F:=H.f;dsimp only [Fac] at F
    go_wp2_with fail
    refine (RP.out _ _).mono ?_;rintro e wq ⟨rfl,hb⟩
    have n1:=H.lt;dsimp only [Lts] at n1
    replace H:=(H.new2 _ _ _).below hb;dsimp only [add] at H;clear hb;replace F:=H.f;dsimp only [Fac] at F
    go_wp2_with fail
    refine (AL.out _ _).mono ?_;rintro e wz ⟨rfl,hb⟩
    have n2:=H.lt;dsimp only [Lts] at n2
    replace H:=(H.new2 _ _ _).below hb;dsimp only [add] at H;clear hb;replace F:=H.f;dsimp only [Fac] at F
    go_wp2_with fail
    go_roundw
    case rel=>exact ⟨n+1,by omega,by omega,rfl,H.cut 4⟩
    case measure=>simp [intOf];omega
  ·go_wp2_with fail
   go_ret
   exact ⟨rfl,H.B⟩
end Go.Proofs.YteephgpefhodnaaGreat.applies
