/- The document's Apply: product, size. -/
import Derived.Test.YteephgpefhodnaaGreatG3
import Derived.LoopTactic
namespace Go.Proofs.YteephgpefhodnaaGreat
open Go.RowKit Go.Sort Go.Fl
set_option linter.unusedSimpArgs false
set_option linter.unusedVariables false
noncomputable def rpLo (a b c d:Int):Nat→Int
 | 0=>PI
 | n+1=>min (rpLo a b c d n) (endK 8 (if n%2=1 then b else a) (if n<2 then c else d) false)
noncomputable def rpHi (a b c d:Int):Nat→Int
 | 0 => -PI
 | n+1=>max (rpHi a b c d n) (endK 8 (if n%2=1 then b else a) (if n<2 then c else d) true)
theorem rp_rg (a b c d:Int) (ra:Rg a) (rb:Rg b) (n:Nat):Rg (rpLo a b c d n)∧Rg (rpHi a b c d n):=by
 induction n with
 | zero=>exact ⟨Rg_PI,Rg_MI⟩
 | succ n ih=>exact ⟨rg_min ih.1 (endK_rg _ _ _ _ (by split<;>assumption)),rg_max ih.2 (endK_rg _ _ _ _ (by split<;>assumption))⟩
theorem rp4 (a b c d:Int) (ra:Rg a) (rb:Rg b):rpLo a b c d 4=loN 8 a b c d 4∧rpHi a b c d 4=hiN 8 a b c d 4:=by
 rw [loN4 8 a b c d ra rb,hiN4 8 a b c d ra rb]
 have e1:rpLo a b c d 4=min (min (min (min PI (endK 8 a c false)) (endK 8 b c false)) (endK 8 a d false)) (endK 8 b d false):=rfl
 have e2:rpHi a b c d 4=max (max (max (max (-PI) (endK 8 a c true)) (endK 8 b c true)) (endK 8 a d true)) (endK 8 b d true):=rfl
 have r1:=(endK_rg 8 a c false ra).2
 have r2:=(endK_rg 8 a c true ra).1
 rw [e1,e2]
 omega
theorem side_8e {x y:Int} (rx:Rg x) (ry:Rg y) (up:Bool) : ∀ w,Calls Tryz.prog 85 #[.int .i64 8,.float .f64 (ofKey (x)),.float .f64 (ofKey (y)),.bool up] w fun e w'=>e = .returned (.float .f64 (ofKey (endK 8 x y up)))∧Below w.heap.size w w':=fun w =>
 side_68 8 x y up rx ry (.inr rfl) w
set_option maxRecDepth 4000 in
set_option maxHeartbeats 4000000 in
theorem refproduct_any (a b c d:Int) (ra:Rg a) (rb:Rg b) (rc:Rg c) (rd:Rg d) (w:World) :
  Calls Tryz.prog 86 #[.agg #[.float .f64 (ofKey (a)),.float .f64 (ofKey (b))],.agg #[.float .f64 (ofKey (c)),.float .f64 (ofKey (d))]] w fun e w'=>e = .returned (.agg #[.float .f64 (ofKey (loN 8 a b c d 4)),.float .f64 (ofKey (hiN 8 a b c d 4))])∧Below w.heap.size w w':=by
 rw [←(rp4 a b c d ra rb).1,←(rp4 a b c d ra rb).2]
 obtain ⟨lo,hlo⟩ : ∃ f,f=rpLo a b c d:=⟨_,rfl⟩
 obtain ⟨hi,hhi⟩ : ∃ f,f=rpHi a b c d:=⟨_,rfl⟩
 obtain ⟨el,hel⟩ : ∃ f:Nat→Int,f=fun n=>endK 8 (if n%2=1 then b else a) (if n<2 then c else d) false:=⟨_,rfl⟩
 obtain ⟨eh,heh⟩ : ∃ f:Nat→Int,f=fun n=>endK 8 (if n%2=1 then b else a) (if n<2 then c else d) true:=⟨_,rfl⟩
 have rl : ∀ n,Rg (lo n):=fun n=>by rw [hlo];exact (rp_rg a b c d ra rb n).1
 have rh : ∀ n,Rg (hi n):=fun n=>by rw [hhi];exact (rp_rg a b c d ra rb n).2
 have rel : ∀ n,Rg (el n):=fun n=>by rw [hel];exact endK_rg _ _ _ _ (by split<;>assumption)
 have reh : ∀ n,Rg (eh n):=fun n=>by rw [heh];exact endK_rg _ _ _ _ (by split<;>assumption)
 have ml : ∀ n,lo (n+1)=min (lo n) (el n):=fun n=>by rw [hlo,hel];rfl
 have mh : ∀ n,hi (n+1)=max (hi n) (eh n):=fun n=>by rw [hhi,heh];rfl
 have l0:lo 0=PI:=by rw [hlo];rfl
 have h0:hi 0 = -PI:=by rw [hhi];rfl
 have cl0:=side_8e ra rc false
 have ch0:=side_8e ra rc true
 rw [show endK 8 a c false=el 0 by rw [hel];rfl] at cl0
 rw [show endK 8 a c true=eh 0 by rw [heh];rfl] at ch0
 have cl1:=side_8e rb rc false
 have ch1:=side_8e rb rc true
 rw [show endK 8 b c false=el 1 by rw [hel];rfl] at cl1
 rw [show endK 8 b c true=eh 1 by rw [heh];rfl] at ch1
 have cl2:=side_8e ra rd false
 have ch2:=side_8e ra rd true
 rw [show endK 8 a d false=el 2 by rw [hel];rfl] at cl2
 rw [show endK 8 a d true=eh 2 by rw [heh];rfl] at ch2
 have cl3:=side_8e rb rd false
 have ch3:=side_8e rb rd true
 rw [show endK 8 b d false=el 3 by rw [hel];rfl] at cl3
 rw [show endK 8 b d true=eh 3 by rw [heh];rfl] at ch3
 rw [show rpLo a b c d 4=lo 4 by rw [hlo],show rpHi a b c d 4=hi 4 by rw [hhi]]
 clear hlo hhi hel heh
 have CL0:=Lib.hid cl0;have CH0:=Lib.hid ch0;clear cl0 ch0
 have CL1:=Lib.hid cl1;have CH1:=Lib.hid ch1;clear cl1 ch1
 have CL2:=Lib.hid cl2;have CH2:=Lib.hid ch2;clear cl2 ch2
 have CL3:=Lib.hid cl3;have CH3:=Lib.hid ch3;clear cl3 ch3
 have ML:=Lib.hid ml;have MH:=Lib.hid mh;have L0:=Lib.hid l0;have H0:=Lib.hid h0
 have RL:=Lib.hid rl;have RH:=Lib.hid rh;have REL:=Lib.hid rel;have REH:=Lib.hid reh
 clear ml mh l0 h0 rl rh rel reh
 go_enter Tryz.func86,Tryz.ntmps86
 go_wp2_with fail
 refine (refempty_any _).mono ?_;rintro e w1 ⟨rfl,hb⟩
 have H:=Hold.i222.below hb;clear hb;have F:=H.f;dsimp only [Fac] at F
 go_wp2_with fail
 have n1:=H.lt;dsimp only [Lts] at n1
 refine (H.new2 _ _ _).go ?_;clear H F;intro w2 H;dsimp only [add] at H;have F:=H.f;dsimp only [Fac] at F
 clear F
 go_loopw [6] (fun k wr => ∃ n:Nat,∃ m:Int,n≤4∧m=n∧k = .int .i64 m∧Hold w wr [(w.heap.size,0,.float .f64 (ofKey (a))),(w.heap.size,1,.float .f64 (ofKey (b))),(w.heap.size+1,0,.float .f64 (ofKey (c))),(w.heap.size+1,1,.float .f64 (ofKey (d))),(w.heap.size+1+1,0,.float .f64 (0)),(w.heap.size+1+1,1,.float .f64 (0)),(w1.heap.size,0,.float .f64 (ofKey (lo n))),(w1.heap.size,1,.float .f64 (ofKey (hi n)))]) (fun k _=>(4-intOf k).toNat)
 case atStart=>exact ⟨0,0,by omega,by omega,rfl,by rw [L0.out,H0.out];exact H⟩
 case round =>
  clear H
  obtain ⟨n,m,hn,hm,rfl,H⟩:=hrel
  have hc:n=0∨n=1∨n=2∨n=3∨n=4:=by omega
  rcases hc with rfl|rfl|rfl|rfl|rfl
  ·obtain rfl:m=0:=hm
   have r1:=RL.out 0;have r2:=RH.out 0;have r3:=REL.out 0;have r4:=REH.out 0
   by_cases hl:el 0<lo 0
   ·have ql:lo 1=el 0:=by have:lo 1=min (lo 0) (el 0):=ML.out 0;omega
    by_cases hh:hi 0<eh 0
    ·have qh:hi 1=eh 0:=by have:hi 1=max (hi 0) (eh 0):=MH.out 0;omega
     have F:=H.f;dsimp only [Fac] at F
     have QL:=Lib.hid ql;have QH:=Lib.hid qh;clear ql qh
     go_wp2_with (go_at_call 85;(first|(with_reducible refine (CL0.out _).mono ?_)|(with_reducible refine (CH0.out _).mono ?_));rintro e wf ⟨rfl,hb⟩;replace H:=H.below hb;clear hb;replace F:=H.f;dsimp only [Fac] at F)
     go_roundw
     case rel=>exact ⟨1,1,by omega,by omega,rfl,by rw [QL.out,QH.out];exact ((H.set 6 _).set 7 _)⟩
     case measure=>simp [intOf]
    ·have qh:hi 1=hi 0:=by have:hi 1=max (hi 0) (eh 0):=MH.out 0;omega
     have F:=H.f;dsimp only [Fac] at F
     have QL:=Lib.hid ql;have QH:=Lib.hid qh;clear ql qh
     go_wp2_with (go_at_call 85;(first|(with_reducible refine (CL0.out _).mono ?_)|(with_reducible refine (CH0.out _).mono ?_));rintro e wf ⟨rfl,hb⟩;replace H:=H.below hb;clear hb;replace F:=H.f;dsimp only [Fac] at F)
     go_roundw
     case rel=>exact ⟨1,1,by omega,by omega,rfl,by rw [QL.out,QH.out];exact (H.set 6 _)⟩
     case measure=>simp [intOf]
   ·have ql:lo 1=lo 0:=by have:lo 1=min (lo 0) (el 0):=ML.out 0;omega
    by_cases hh:hi 0<eh 0
    ·have qh:hi 1=eh 0:=by have:hi 1=max (hi 0) (eh 0):=MH.out 0;omega
     have F:=H.f;dsimp only [Fac] at F
     have QL:=Lib.hid ql;have QH:=Lib.hid qh;clear ql qh
     go_wp2_with (go_at_call 85;(first|(with_reducible refine (CL0.out _).mono ?_)|(with_reducible refine (CH0.out _).mono ?_));rintro e wf ⟨rfl,hb⟩;replace H:=H.below hb;clear hb;replace F:=H.f;dsimp only [Fac] at F)
     go_roundw
     case rel=>exact ⟨1,1,by omega,by omega,rfl,by rw [QL.out,QH.out];exact (H.set 7 _)⟩
     case measure=>simp [intOf]
    ·have qh:hi 1=hi 0:=by have:hi 1=max (hi 0) (eh 0):=MH.out 0;omega
     have F:=H.f;dsimp only [Fac] at F
     have QL:=Lib.hid ql;have QH:=Lib.hid qh;clear ql qh
     go_wp2_with (go_at_call 85;(first|(with_reducible refine (CL0.out _).mono ?_)|(with_reducible refine (CH0.out _).mono ?_));rintro e wf ⟨rfl,hb⟩;replace H:=H.below hb;clear hb;replace F:=H.f;dsimp only [Fac] at F)
     go_roundw
     case rel=>exact ⟨1,1,by omega,by omega,rfl,by rw [QL.out,QH.out];exact H⟩
     case measure=>simp [intOf]
  ·obtain rfl:m=1:=hm
   have r1:=RL.out 1;have r2:=RH.out 1;have r3:=REL.out 1;have r4:=REH.out 1
   by_cases hl:el 1<lo 1
   ·have ql:lo 2=el 1:=by have:lo 2=min (lo 1) (el 1):=ML.out 1;omega
    by_cases hh:hi 1<eh 1
    ·have qh:hi 2=eh 1:=by have:hi 2=max (hi 1) (eh 1):=MH.out 1;omega
     have F:=H.f;dsimp only [Fac] at F
     have QL:=Lib.hid ql;have QH:=Lib.hid qh;clear ql qh
     go_wp2_with (go_at_call 85;(first|(with_reducible refine (CL1.out _).mono ?_)|(with_reducible refine (CH1.out _).mono ?_));rintro e wf ⟨rfl,hb⟩;replace H:=H.below hb;clear hb;replace F:=H.f;dsimp only [Fac] at F)
     go_roundw
     case rel=>exact ⟨2,2,by omega,by omega,rfl,by rw [QL.out,QH.out];exact ((H.set 6 _).set 7 _)⟩
     case measure=>simp [intOf]
    ·have qh:hi 2=hi 1:=by have:hi 2=max (hi 1) (eh 1):=MH.out 1;omega
     have F:=H.f;dsimp only [Fac] at F
     have QL:=Lib.hid ql;have QH:=Lib.hid qh;clear ql qh
     go_wp2_with (go_at_call 85;(first|(with_reducible refine (CL1.out _).mono ?_)|(with_reducible refine (CH1.out _).mono ?_));rintro e wf ⟨rfl,hb⟩;replace H:=H.below hb;clear hb;replace F:=H.f;dsimp only [Fac] at F)
     go_roundw
     case rel=>exact ⟨2,2,by omega,by omega,rfl,by rw [QL.out,QH.out];exact (H.set 6 _)⟩
     case measure=>simp [intOf]
   ·have ql:lo 2=lo 1:=by have:lo 2=min (lo 1) (el 1):=ML.out 1;omega
    by_cases hh:hi 1<eh 1
    ·have qh:hi 2=eh 1:=by have:hi 2=max (hi 1) (eh 1):=MH.out 1;omega
     have F:=H.f;dsimp only [Fac] at F
     have QL:=Lib.hid ql;have QH:=Lib.hid qh;clear ql qh
     go_wp2_with (go_at_call 85;(first|(with_reducible refine (CL1.out _).mono ?_)|(with_reducible refine (CH1.out _).mono ?_));rintro e wf ⟨rfl,hb⟩;replace H:=H.below hb;clear hb;replace F:=H.f;dsimp only [Fac] at F)
     go_roundw
     case rel=>exact ⟨2,2,by omega,by omega,rfl,by rw [QL.out,QH.out];exact (H.set 7 _)⟩
     case measure=>simp [intOf]
    ·have qh:hi 2=hi 1:=by have:hi 2=max (hi 1) (eh 1):=MH.out 1;omega
     have F:=H.f;dsimp only [Fac] at F
     have QL:=Lib.hid ql;have QH:=Lib.hid qh;clear ql qh
     go_wp2_with (go_at_call 85;(first|(with_reducible refine (CL1.out _).mono ?_)|(with_reducible refine (CH1.out _).mono ?_));rintro e wf ⟨rfl,hb⟩;replace H:=H.below hb;clear hb;replace F:=H.f;dsimp only [Fac] at F)
     go_roundw
     case rel=>exact ⟨2,2,by omega,by omega,rfl,by rw [QL.out,QH.out];exact H⟩
     case measure=>simp [intOf]
  ·obtain rfl:m=2:=hm
   have r1:=RL.out 2;have r2:=RH.out 2;have r3:=REL.out 2;have r4:=REH.out 2
   by_cases hl:el 2<lo 2
   ·have ql:lo 3=el 2:=by have:lo 3=min (lo 2) (el 2):=ML.out 2;omega
    by_cases hh:hi 2<eh 2
    ·have qh:hi 3=eh 2:=by have:hi 3=max (hi 2) (eh 2):=MH.out 2;omega
     have F:=H.f;dsimp only [Fac] at F
     have QL:=Lib.hid ql;have QH:=Lib.hid qh;clear ql qh
     go_wp2_with (go_at_call 85;(first|(with_reducible refine (CL2.out _).mono ?_)|(with_reducible refine (CH2.out _).mono ?_));rintro e wf ⟨rfl,hb⟩;replace H:=H.below hb;clear hb;replace F:=H.f;dsimp only [Fac] at F)
     go_roundw
     case rel=>exact ⟨3,3,by omega,by omega,rfl,by rw [QL.out,QH.out];exact ((H.set 6 _).set 7 _)⟩
     case measure=>simp [intOf]
    ·have qh:hi 3=hi 2:=by have:hi 3=max (hi 2) (eh 2):=MH.out 2;omega
     have F:=H.f;dsimp only [Fac] at F
     have QL:=Lib.hid ql;have QH:=Lib.hid qh;clear ql qh
     go_wp2_with (go_at_call 85;(first|(with_reducible refine (CL2.out _).mono ?_)|(with_reducible refine (CH2.out _).mono ?_));rintro e wf ⟨rfl,hb⟩;replace H:=H.below hb;clear hb;replace F:=H.f;dsimp only [Fac] at F)
     go_roundw
     case rel=>exact ⟨3,3,by omega,by omega,rfl,by rw [QL.out,QH.out];exact (H.set 6 _)⟩
     case measure=>simp [intOf]
   ·have ql:lo 3=lo 2:=by have:lo 3=min (lo 2) (el 2):=ML.out 2;omega
    by_cases hh:hi 2<eh 2
    ·have qh:hi 3=eh 2:=by have:hi 3=max (hi 2) (eh 2):=MH.out 2;omega
     have F:=H.f;dsimp only [Fac] at F
     have QL:=Lib.hid ql;have QH:=Lib.hid qh;clear ql qh
     go_wp2_with (go_at_call 85;(first|(with_reducible refine (CL2.out _).mono ?_)|(with_reducible refine (CH2.out _).mono ?_));rintro e wf ⟨rfl,hb⟩;replace H:=H.below hb;clear hb;replace F:=H.f;dsimp only [Fac] at F)
     go_roundw
     case rel=>exact ⟨3,3,by omega,by omega,rfl,by rw [QL.out,QH.out];exact (H.set 7 _)⟩
     case measure=>simp [intOf]
    ·have qh:hi 3=hi 2:=by have:hi 3=max (hi 2) (eh 2):=MH.out 2;omega
     have F:=H.f;dsimp only [Fac] at F
     have QL:=Lib.hid ql;have QH:=Lib.hid qh;clear ql qh
     go_wp2_with (go_at_call 85;(first|(with_reducible refine (CL2.out _).mono ?_)|(with_reducible refine (CH2.out _).mono ?_));rintro e wf ⟨rfl,hb⟩;replace H:=H.below hb;clear hb;replace F:=H.f;dsimp only [Fac] at F)
     go_roundw
     case rel=>exact ⟨3,3,by omega,by omega,rfl,by rw [QL.out,QH.out];exact H⟩
     case measure=>simp [intOf]
  ·obtain rfl:m=3:=hm
   have r1:=RL.out 3;have r2:=RH.out 3;have r3:=REL.out 3;have r4:=REH.out 3
   by_cases hl:el 3<lo 3
   ·have ql:lo 4=el 3:=by have:lo 4=min (lo 3) (el 3):=ML.out 3;omega
    by_cases hh:hi 3<eh 3
    ·have qh:hi 4=eh 3:=by have:hi 4=max (hi 3) (eh 3):=MH.out 3;omega
     have F:=H.f;dsimp only [Fac] at F
     have QL:=Lib.hid ql;have QH:=Lib.hid qh;clear ql qh
     go_wp2_with (go_at_call 85;(first|(with_reducible refine (CL3.out _).mono ?_)|(with_reducible refine (CH3.out _).mono ?_));rintro e wf ⟨rfl,hb⟩;replace H:=H.below hb;clear hb;replace F:=H.f;dsimp only [Fac] at F)
     go_roundw
     case rel=>exact ⟨4,4,by omega,by omega,rfl,by rw [QL.out,QH.out];exact ((H.set 6 _).set 7 _)⟩
     case measure=>simp [intOf]
    ·have qh:hi 4=hi 3:=by have:hi 4=max (hi 3) (eh 3):=MH.out 3;omega
     have F:=H.f;dsimp only [Fac] at F
     have QL:=Lib.hid ql;have QH:=Lib.hid qh;clear ql qh
     go_wp2_with (go_at_call 85;(first|(with_reducible refine (CL3.out _).mono ?_)|(with_reducible refine (CH3.out _).mono ?_));rintro e wf ⟨rfl,hb⟩;replace H:=H.below hb;clear hb;replace F:=H.f;dsimp only [Fac] at F)
     go_roundw
     case rel=>exact ⟨4,4,by omega,by omega,rfl,by rw [QL.out,QH.out];exact (H.set 6 _)⟩
     case measure=>simp [intOf]
   ·have ql:lo 4=lo 3:=by have:lo 4=min (lo 3) (el 3):=ML.out 3;omega
    by_cases hh:hi 3<eh 3
    ·have qh:hi 4=eh 3:=by have:hi 4=max (hi 3) (eh 3):=MH.out 3;omega
     have F:=H.f;dsimp only [Fac] at F
     have QL:=Lib.hid ql;have QH:=Lib.hid qh;clear ql qh
     go_wp2_with (go_at_call 85;(first|(with_reducible refine (CL3.out _).mono ?_)|(with_reducible refine (CH3.out _).mono ?_));rintro e wf ⟨rfl,hb⟩;replace H:=H.below hb;clear hb;replace F:=H.f;dsimp only [Fac] at F)
     go_roundw
     case rel=>exact ⟨4,4,by omega,by omega,rfl,by rw [QL.out,QH.out];exact (H.set 7 _)⟩
     case measure=>simp [intOf]
    ·have qh:hi 4=hi 3:=by have:hi 4=max (hi 3) (eh 3):=MH.out 3;omega
     have F:=H.f;dsimp only [Fac] at F
     have QL:=Lib.hid ql;have QH:=Lib.hid qh;clear ql qh
     go_wp2_with (go_at_call 85;(first|(with_reducible refine (CL3.out _).mono ?_)|(with_reducible refine (CH3.out _).mono ?_));rintro e wf ⟨rfl,hb⟩;replace H:=H.below hb;clear hb;replace F:=H.f;dsimp only [Fac] at F)
     go_roundw
     case rel=>exact ⟨4,4,by omega,by omega,rfl,by rw [QL.out,QH.out];exact H⟩
     case measure=>simp [intOf]
  ·obtain rfl:m=4:=hm
   have r1:=RL.out 4;have r2:=RH.out 4
   have F:=H.f;dsimp only [Fac] at F
   go_wp2_with fail
   refine ((H.set 4 _).set 5 _).gob ?_;clear H F;intro wz H;dsimp only [upd] at H;have F:=H.f;dsimp only [Fac] at F
   refine bodyPost_ret (by simp [results,Tryz.results86,go_sem,F]) rfl ⟨rfl,?_⟩;exact H.B
theorem refsize_any (a b:Int) (h:NE a b) (w:World) :
  Calls Tryz.prog 88 #[.agg #[.float .f64 (ofKey (a)),.float .f64 (ofKey (b))]] w fun e w'=>e = .returned (.agg #[.float .f64 (ofKey (absLo a b)),.float .f64 (ofKey (absHi a b))])∧Below w.heap.size w w':=by
 have ha:=h.1
 have hb:=h.2.1
 by_cases h1:0≤a
 ·rw [show absLo a b=a by unfold absLo;rw [if_pos h1],show absHi a b=b by unfold absHi;rw [if_pos h1]]
  go_enter Tryz.func88,Tryz.ntmps88
  go_wp2_with fail
  go_returns
  exact ⟨rfl,by go_grown⟩
 ·by_cases h2:b≤0
  ·rw [show absLo a b = -b by unfold absLo;rw [if_neg h1,if_pos h2],show absHi a b = -a by unfold absHi;rw [if_neg h1,if_pos h2]]
   go_enter Tryz.func88,Tryz.ntmps88
   go_wp2_with fail
   refine (refflip_any _ _ h _).mono ?_;rintro e w1 ⟨rfl,hb⟩
   have H:=Hold.i22.below hb;clear hb;have F:=H.f;dsimp only [Fac] at F
   go_wp2_with fail
   refine ((H.set 2 _).set 3 _).gob ?_;clear H F;intro wz H;dsimp only [upd] at H;have F:=H.f;dsimp only [Fac] at F
   refine bodyPost_ret (by simp [results,Tryz.results88,go_sem,F]) rfl ⟨rfl,?_⟩;exact H.B
  ·by_cases h3 : -a<b
   ·rw [show absLo a b=0 by unfold absLo;rw [if_neg h1,if_neg h2],show absHi a b=b by unfold absHi;rw [if_neg h1,if_neg h2];omega]
    go_enter Tryz.func88,Tryz.ntmps88
    go_wp2_with fail
    go_returns
    exact ⟨rfl,by go_grown⟩
   ·have e:Op.negFloat .f64 (ofKey a)=ofKey (-a):=fneg_ofKey ha (by omega)
    have d3:decide (-a<b)=false:=decide_eq_false h3
    have z0:ofKey 0=0:=by decide
    have rn:=Rg_neg ha
    rw [show absLo a b=0 by unfold absLo;rw [if_neg h1,if_neg h2],show absHi a b = -a by unfold absHi;rw [if_neg h1,if_neg h2];omega]
    go_enter Tryz.func88,Tryz.ntmps88
    go_wp2_with fail
    go_returns
    exact ⟨rfl,by go_grown⟩
end Go.Proofs.YteephgpefhodnaaGreat
