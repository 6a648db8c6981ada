/- The document's test of a program. -/
import Derived.Test.YteephgpefhodnaaGreatV1
import Derived.Test.YteephgpefhodnaaGreatV3
import Derived.Test.YteephgpefhodnaaGreatQD
namespace Go.Proofs.YteephgpefhodnaaGreat
open Go.RowKit Go.Sort Go.Fl
set_option linter.unusedSimpArgs false
set_option linter.unusedVariables false
theorem prog_none {l:List St} {n k:Nat} (h:runN n (l.take k) 0=none):progB l n=false:=decide_eq_false (fun g=>by rw [runN_none h] at g;exact absurd g.2.2 (by simp))
theorem rp_len (b:Option Addr) (m c n:Nat) (h:(m:Int)<1∨(1≤(m:Int)∧24<(m:Int))) (w:World) :
  Calls Tryz.prog 71 #[.slice b m c,.int .i64 (n:Int)] w fun e w'=>e = .returned (.bool false)∧Below w.heap.size w w':=by
 rcases h with h|⟨h,h2⟩
 all_goals
  go_enter Tryz.func71,Tryz.ntmps71
  go_wp2_with fail
  go_ret
  exact ⟨rfl,by go_grown⟩
set_option maxRecDepth 4000 in
set_option maxHeartbeats 2000000 in
theorem rp_main (l:List St) (b:Option Addr) (c n:Nat) (w:World) (hs:Own cS 61 0 w (.slice b l.length c) l) (hn:n≤4) (h1:1≤(l.length:Int)) (h24:(l.length:Int)≤24) :
  Calls Tryz.prog 71 #[.slice b l.length c,.int .i64 (n:Int)] w fun e w'=>e = .returned (.bool (progB l n))∧Below w.heap.size w w':=by
 replace hs:=Lib.hid hs
 go_enter Tryz.func71,Tryz.ntmps71
 go_wp2_with fail
 go_loopw [5,6] (fun hv i wr => ∃ (k h:Nat),i = .int .i64 (k:Int)∧hv = .int .i64 (h:Int)∧k≤l.length∧h≤8∧runN n (l.take k) 0=some h∧Below w.heap.size w wr) (fun _ i _=>l.length-(intOf i).toNat)
 case atStart=>exact ⟨0,0,rfl,rfl,Nat.zero_le _,by omega,rfl,Below.refl _ _⟩
 case round =>
  obtain ⟨k,h,rfl,rfl,hk,h8,hr,hB⟩:=hrel
  replace hr:=Lib.hid hr
  by_cases hlt:k<l.length
  ·obtain ⟨s,hs'⟩ : ∃ s,s=l.getD k zeroS:=⟨_,rfl⟩
   obtain ⟨g,hg,e⟩ : ∃ g,g<w.heap.size∧b=some ⟨g,0,none⟩:=by
    rcases hs.out.cases with ⟨_,e2⟩|⟨g,cap,e,_,_,_,hg⟩
    ·rw [e2] at hlt;simp at hlt
    ·cases e;exact ⟨g,hg,rfl⟩
   subst e
   have c0:=RowKit.Below.cells hB ((hs.out.cell cS_len zeroS k 0 hlt (by decide)).trans (by rw [←hs'];rfl:_=some (.int .i64 s.1)))
   have c1:=RowKit.Below.cells hB ((hs.out.cell cS_len zeroS k 1 hlt (by decide)).trans (by rw [←hs'];rfl:_=some (.int .i64 s.2.1)))
   have c2:=RowKit.Below.cells hB ((hs.out.cell cS_len zeroS k 2 hlt (by decide)).trans (by rw [←hs'];rfl:_=some (.float .f64 s.2.2)))
   rw [Nat.add_zero] at c0
   have hgw:g<wr.heap.size:=by have:=hB.size;omega
   have hnx:runN n (l.take (k+1)) 0=stepN n s h:=by rw [runN_step _ _ _ _ hlt,hr.out,←hs'];rfl
   have hki:(k:Int)<(l.length:Int):=by omega
   clear hs' hr
   obtain ⟨o,i,x⟩:=s
   dsimp only at c0 c1 c2
   unfold stepN at hnx
   dsimp only at hnx
   obtain ⟨q,hq,FI⟩ : ∃ q,q=decide (fin x) ∧ ∀ w,Calls Tryz.prog 45 #[.float .f64 x] w fun e w'=>e = .returned (.bool q)∧Below w.heap.size w w':=by
    by_cases hf:fin x
    ·exact ⟨true,(decide_eq_true hf).symm,fun w=>reffin_yes x hf w⟩
    ·exact ⟨false,(decide_eq_false hf).symm,fun w=>reffin_no x hf w⟩
   replace FI:=Lib.hid FI
   have A0:=(ats_nil wr).new3 (.int .i64 o) (.int .i64 i) (.float .f64 x) 61
   dsimp only [add] at A0
   have B1:=hB.alloc hB.size (.cells #[.int .i64 o,.int .i64 i,.float .f64 x] 61)
   by_cases h12:o=12
   ·subst h12
    rw [if_pos rfl] at hnx
    by_cases hf:fin x
    ·rw [decide_eq_true hf] at hq
     subst hq
     by_cases h7:h<8
     ·have hi7:(h:Int)<8:=by omega
      replace hnx:=Lib.hid (hnx.trans (if_pos ⟨hf,h7⟩))
      go_wp2_with fail
      refine (FI.out _).mono ?_;rintro e w2 ⟨rfl,hb2⟩
      have A2:=A0.grown hb2
      have B2:=below_step B1 B1.size hb2
      have F:=fac_of _ A2;dsimp only [Fac] at F
      clear A0 A2 hb2 B1 c0 c1 c2
      go_wp2_with fail
      go_roundw
      case rel=>exact ⟨k+1,h+1,by go_num,by go_num,by omega,by omega,hnx.out,B2⟩
      case measure=>simp [intOf];omega
     ·have hi7:(h:Int)=8:=by omega
      obtain rfl:h=8:=by omega
      clear hi7
      have hp:progB l n=false:=prog_none (k:=k+1) (hnx.trans (if_neg (fun g=>h7 g.2)))
      replace hp:=Lib.hid hp
      clear hnx
      go_wp2_with fail
      refine (FI.out _).mono ?_;rintro e w2 ⟨rfl,hb2⟩
      have A2:=A0.grown hb2
      have B2:=below_step B1 B1.size hb2
      have F:=fac_of _ A2;dsimp only [Fac] at F
      clear A0 A2 hb2 B1 c0 c1 c2
      go_wp2_with fail
      go_ret
      exact ⟨by rw [hp.out];rfl,B2⟩
    ·rw [decide_eq_false hf] at hq
     subst hq
     have hp:progB l n=false:=prog_none (k:=k+1) (hnx.trans (if_neg (fun g=>hf g.1)))
     replace hp:=Lib.hid hp
     clear hnx
     go_wp2_with fail
     refine (FI.out _).mono ?_;rintro e w2 ⟨rfl,hb2⟩
     have A2:=A0.grown hb2
     have B2:=below_step B1 B1.size hb2
     have F:=fac_of _ A2;dsimp only [Fac] at F
     clear A0 A2 hb2 B1 c0 c1 c2
     go_wp2_with fail
     go_ret
     exact ⟨by rw [hp.out];rfl,B2⟩
   rw [if_neg h12] at hnx
   have d12:(o==12)=false:=by rw [beq_eq_false_iff_ne];exact h12
   clear hq
   by_cases h13:o=13
   ·subst h13
    rw [if_pos rfl] at hnx
    clear d12
    by_cases hi0:i<0
    ·have hp:progB l n=false:=prog_none (k:=k+1) (hnx.trans (if_neg (by omega)))
     replace hp:=Lib.hid hp
     clear hnx
     go_wp2_with fail
     refine (FI.out _).mono ?_;rintro e w2 ⟨rfl,hb2⟩
     have A2:=A0.grown hb2
     have B2:=below_step B1 B1.size hb2
     have F:=fac_of _ A2;dsimp only [Fac] at F
     clear A0 A2 hb2 B1 c0 c1 c2
     go_wp2_with fail
     go_ret
     exact ⟨by rw [hp.out];rfl,B2⟩
    replace hi0:0≤i:=by omega
    by_cases hin:(n:Int)≤i
    ·have hp:progB l n=false:=prog_none (k:=k+1) (hnx.trans (if_neg (by omega)))
     replace hp:=Lib.hid hp
     clear hnx
     go_wp2_with fail
     refine (FI.out _).mono ?_;rintro e w2 ⟨rfl,hb2⟩
     have A2:=A0.grown hb2
     have B2:=below_step B1 B1.size hb2
     have F:=fac_of _ A2;dsimp only [Fac] at F
     clear A0 A2 hb2 B1 c0 c1 c2
     go_wp2_with fail
     go_ret
     exact ⟨by rw [hp.out];rfl,B2⟩
    replace hin:i<(n:Int):=by omega
    by_cases h7:h<8
    ·have hi7:(h:Int)<8:=by omega
     replace hnx:=Lib.hid (hnx.trans (if_pos ⟨hi0,hin,h7⟩))
     go_wp2_with fail
     refine (FI.out _).mono ?_;rintro e w2 ⟨rfl,hb2⟩
     have A2:=A0.grown hb2
     have B2:=below_step B1 B1.size hb2
     have F:=fac_of _ A2;dsimp only [Fac] at F
     clear A0 A2 hb2 B1 c0 c1 c2
     go_wp2_with fail
     go_roundw
     case rel=>exact ⟨k+1,h+1,by go_num,by go_num,by omega,by omega,hnx.out,B2⟩
     case measure=>simp [intOf];omega
    ·obtain rfl:h=8:=by omega
     have hp:progB l n=false:=prog_none (k:=k+1) (hnx.trans (if_neg (by omega)))
     replace hp:=Lib.hid hp
     clear hnx
     go_wp2_with fail
     refine (FI.out _).mono ?_;rintro e w2 ⟨rfl,hb2⟩
     have A2:=A0.grown hb2
     have B2:=below_step B1 B1.size hb2
     have F:=fac_of _ A2;dsimp only [Fac] at F
     clear A0 A2 hb2 B1 c0 c1 c2
     go_wp2_with fail
     go_ret
     exact ⟨by rw [hp.out];rfl,B2⟩
   rw [if_neg h13] at hnx
   have d13:(o==13)=false:=by rw [beq_eq_false_iff_ne];exact h13
   by_cases h6:6≤o∧o≤11
   ·rw [if_pos h6] at hnx
    obtain ⟨h6,h11⟩:=h6
    by_cases h2:h<2
    ·have hi2:(h:Int)<2:=by omega
     have hp:progB l n=false:=prog_none (k:=k+1) (hnx.trans (if_pos h2))
     replace hp:=Lib.hid hp
     clear hnx
     go_wp2_with fail
     refine (FI.out _).mono ?_;rintro e w2 ⟨rfl,hb2⟩
     have A2:=A0.grown hb2
     have B2:=below_step B1 B1.size hb2
     have F:=fac_of _ A2;dsimp only [Fac] at F
     clear A0 A2 hb2 B1 c0 c1 c2
     go_wp2_with fail
     go_ret
     exact ⟨by rw [hp.out];rfl,B2⟩
    ·have hi2:2≤(h:Int):=by omega
     replace hnx:=Lib.hid (hnx.trans (if_neg h2))
     go_wp2_with fail
     refine (FI.out _).mono ?_;rintro e w2 ⟨rfl,hb2⟩
     have A2:=A0.grown hb2
     have B2:=below_step B1 B1.size hb2
     have F:=fac_of _ A2;dsimp only [Fac] at F
     clear A0 A2 hb2 B1 c0 c1 c2
     go_wp2_with fail
     go_roundw
     case rel=>exact ⟨k+1,h-1,by go_num,by first|go_num|(congr 1;omega),by omega,by omega,hnx.out,B2⟩
     case measure=>simp [intOf];omega
   rw [if_neg h6] at hnx
   by_cases h0:o<0
   ·have hp:progB l n=false:=prog_none (k:=k+1) (hnx.trans (if_pos (by omega)))
    replace hp:=Lib.hid hp
    clear hnx
    go_wp2_with fail
    refine (FI.out _).mono ?_;rintro e w2 ⟨rfl,hb2⟩
    have A2:=A0.grown hb2
    have B2:=below_step B1 B1.size hb2
    have F:=fac_of _ A2;dsimp only [Fac] at F
    clear A0 A2 hb2 B1 c0 c1 c2
    go_wp2_with fail
    go_ret
    exact ⟨by rw [hp.out];rfl,B2⟩
   by_cases h11:11<o
   ·have h6':6≤o:=by omega
    have hp:progB l n=false:=prog_none (k:=k+1) (hnx.trans (if_pos (by omega)))
    replace hp:=Lib.hid hp
    clear hnx
    go_wp2_with fail
    refine (FI.out _).mono ?_;rintro e w2 ⟨rfl,hb2⟩
    have A2:=A0.grown hb2
    have B2:=below_step B1 B1.size hb2
    have F:=fac_of _ A2;dsimp only [Fac] at F
    clear A0 A2 hb2 B1 c0 c1 c2
    go_wp2_with fail
    go_ret
    exact ⟨by rw [hp.out];rfl,B2⟩
   replace h0:0≤o:=by omega
   replace h11:o≤11:=by omega
   replace h6:o<6:=by omega
   by_cases h1:h<1
   ·have hi1:(h:Int)<1:=by omega
    have hp:progB l n=false:=prog_none (k:=k+1) (hnx.trans (if_pos (by omega)))
    replace hp:=Lib.hid hp
    clear hnx
    go_wp2_with fail
    refine (FI.out _).mono ?_;rintro e w2 ⟨rfl,hb2⟩
    have A2:=A0.grown hb2
    have B2:=below_step B1 B1.size hb2
    have F:=fac_of _ A2;dsimp only [Fac] at F
    clear A0 A2 hb2 B1 c0 c1 c2
    go_wp2_with fail
    go_ret
    exact ⟨by rw [hp.out];rfl,B2⟩
   ·have hi1:1≤(h:Int):=by omega
    replace hnx:=Lib.hid (hnx.trans (if_neg (by omega)))
    go_wp2_with fail
    refine (FI.out _).mono ?_;rintro e w2 ⟨rfl,hb2⟩
    have A2:=A0.grown hb2
    have B2:=below_step B1 B1.size hb2
    have F:=fac_of _ A2;dsimp only [Fac] at F
    clear A0 A2 hb2 B1 c0 c1 c2
    go_wp2_with fail
    go_roundw
    case rel=>exact ⟨k+1,h,by go_num,rfl,by omega,by omega,hnx.out,B2⟩
    case measure=>simp [intOf];omega
  ·have hln:l.take k=l:=List.take_of_length_le (by omega)
   have hp:progB l n=decide ((h:Int)=1):=by
    unfold progB
    rw [hln] at hr
    rw [hr.out]
    by_cases g:h=1
    ·rw [decide_eq_true (by omega:(h:Int)=1)];exact decide_eq_true ⟨by omega,by omega,by rw [g]⟩
    ·rw [decide_eq_false (by omega : ¬(h:Int)=1)];exact decide_eq_false (fun e=>g (by cases e.2.2;rfl))
   replace hp:=Lib.hid hp
   go_wp2_with fail
   go_ret
   exact ⟨by rw [hp.out];rfl,hB⟩
theorem refprog_any (l:List St) (v:Value) (n:Nat) (w:World) (hs:Own cS 61 0 w v l) (hn:n≤4) :
  Calls Tryz.prog 71 #[v,.int .i64 (n:Int)] w fun e w'=>e = .returned (.bool (progB l n))∧Below w.heap.size w w':=by
 obtain ⟨b,c,rfl⟩ : ∃ bs cs,v = .slice bs l.length cs:=by
  rcases hs.cases with ⟨rfl,rfl⟩|⟨g,cap,rfl,_⟩
  ·exact ⟨_,_,rfl⟩
  ·exact ⟨_,_,rfl⟩
 by_cases h1:l.length<1
 ·rw [show progB l n=false from decide_eq_false (by omega)];exact rp_len b _ c n (.inl (by omega)) w
 by_cases h2:24<l.length
 ·rw [show progB l n=false from decide_eq_false (by omega)];exact rp_len b _ c n (.inr ⟨by omega,by omega⟩) w
 exact rp_main l b c n w hs hn (by omega) (by omega)
end Go.Proofs.YteephgpefhodnaaGreat
