/- The document's Do, joined; two decorated intervals that are the same. -/
import Derived.Test.YteephgpefhodnaaGreatE2
namespace Go.Proofs.YteephgpefhodnaaGreat
open Go.RowKit Go.Sort Go.Fl
set_option linter.unusedSimpArgs false
set_option linter.unusedVariables false
theorem samely_refl (a b d:Int) (ha:Rg a) (hb:Rg b) (w:World) :
  Calls Tryz.prog 32 #[.agg #[.float .f64 (ofKey (a)),.float .f64 (ofKey (b)),.int .i64 (d)],.agg #[.float .f64 (ofKey (a)),.float .f64 (ofKey (b)),.int .i64 (d)]] w fun e w'=>e = .returned (.bool true)∧Below w.heap.size w w':=by
 have AL:=Lib.hid (fun w=>alike_refl a b ha hb w)
 go_enter Tryz.func32,Tryz.ntmps32
 go_wp2_with fail
 refine (AL.out _).mono ?_;rintro e w1 ⟨rfl,hb⟩
 have H:=Hold.i33.below hb;clear hb;have F:=H.f;dsimp only [Fac] at F
 go_wp2_with fail
 go_ret
 exact ⟨rfl,H.B⟩
theorem dD_le (a b:Nat) (d:Int):dD a b d≤4:=by
 unfold dD
 split
 ·decide
 ·rename_i h
  have : ¬4<d:=fun g=>h (.inr (.inl g))
  split
  ·decide
  ·split<;>omega
theorem zLo_none {o A B C D m n:Int} (h:zIll o m n):zLo o A B C D m n=PI∧zHi o A B C D m n = -PI∧zD o A B C D m n=0:=by
 unfold zLo zHi zD
 rw [if_pos h,if_pos h,if_pos h];exact ⟨rfl,rfl,rfl⟩
theorem refdo_any (o:Int) (a b a2 b2:Nat) (d d2:Int) (wa:Wd a) (wb:Wd b) (wa2:Wd a2) (wb2:Wd b2) (w:World) :
  Calls Tryz.prog 34 #[.int .i64 o,.agg #[.float .f64 (a),.float .f64 (b),.int .i64 (d)],.agg #[.float .f64 (a2),.float .f64 (b2),.int .i64 (d2)]] w fun e w'=>e = .returned (.agg #[.float .f64 (ofKey (zLo o (dLo a b d) (dHi a b d) (dLo a2 b2 d2) (dHi a2 b2 d2) (dD a b d) (dD a2 b2 d2))),.float .f64 (ofKey (zHi o (dLo a b d) (dHi a b d) (dLo a2 b2 d2) (dHi a2 b2 d2) (dD a b d) (dD a2 b2 d2))),.int .i64 (zD o (dLo a b d) (dHi a b d) (dLo a2 b2 d2) (dHi a2 b2 d2) (dD a b d) (dD a2 b2 d2))])∧Below w.heap.size w w':=by
 have OA:=fun w=>refdecorate_any a b d wa wb w
 have OB:=fun w=>refdecorate_any a2 b2 d2 wa2 wb2 w
 have hI:=dc_iv a b d
 have hJ:=dc_iv a2 b2 d2
 have hm:=dD_le a b d
 generalize dLo a b d=A at *
 generalize dHi a b d=B at *
 generalize dD a b d=m at *
 generalize dLo a2 b2 d2=C at *
 generalize dHi a2 b2 d2=D at *
 generalize dD a2 b2 d2=n at *
 have rA:=hI.1;have rB:=hI.2.1;have rC:=hJ.1;have rD:=hJ.2.1
 by_cases h1:o<0
 ·have z:=zLo_none (A:=A) (B:=B) (C:=C) (D:=D) (m:=m) (n:=n) (.inl (argsK0 (.inl h1)))
  rw [z.1,z.2.1,z.2.2]
  exact rdo_lo o a b a2 b2 d d2 A B C D m n rA rB rC rD h1 OA OB w
 by_cases h2:11<o
 ·have z:=zLo_none (A:=A) (B:=B) (C:=C) (D:=D) (m:=m) (n:=n) (.inl (argsK0 (.inr h2)))
  rw [z.1,z.2.1,z.2.2]
  exact rdo_hi o a b a2 b2 d d2 A B C D m n rA rB rC rD h2 OA OB w
 by_cases h0:m=0
 ·have z:=zLo_none (o:=o) (A:=A) (B:=B) (C:=C) (D:=D) (m:=m) (n:=n) (.inr (.inl h0))
  rw [z.1,z.2.1,z.2.2]
  exact rdo_m o a b a2 b2 d d2 A B C D m n rA rB rC rD ⟨by omega,by omega⟩ h0 OA OB w
 by_cases h5:o≤5
 ·have ho:0≤o∧o≤5:=⟨by omega,h5⟩
  have ha:=argsK1 ho
  have hi : ¬zIll o m n:=by unfold zIll;omega
  have e1:ofKey 4607182418800017408=4607182418800017408:=by decide
  have r1:Rg 4607182418800017408:=⟨by decide,by decide⟩
  have hK:Iv 4607182418800017408 4607182418800017408:=⟨r1,r1,.inr ⟨by decide,by decide,by decide⟩⟩
  have i:=ap_iv o A B A B rA rB rA rB
  have AP:=fun w=>refapply_k o A B 4607182418800017408 4607182418800017408 hI hK w
  rw [(ap_cd ho 4607182418800017408 4607182418800017408 A B).1,(ap_cd ho 4607182418800017408 4607182418800017408 A B).2] at AP
  have LC:=fun w=>reflocal_any o A B 4607182418800017408 4607182418800017408 _ _ rA rB r1 r1 i.1 i.2.1 w
  rw [rloc_one hI ho] at LC
  rw [e1] at AP LC
  have R:=rdo_one o a b a2 b2 d d2 A B C D m n _ _ _ rA rB rC rD i.1 i.2.1 ho h0 hm OA OB AP LC w
  unfold zLo zHi zD
  rw [if_neg hi,if_neg hi,if_neg hi,if_pos ha,if_pos ha,if_pos ha]
  by_cases he:A=PI∧B = -PI
  ·rw [if_pos he] at R ⊢;exact R
  ·rw [if_neg he] at R ⊢;exact R
 ·have ho:6≤o∧o≤11:=⟨by omega,by omega⟩
  have ha:=argsK2 ho
  by_cases h3:n=0
  ·have z:=zLo_none (o:=o) (A:=A) (B:=B) (C:=C) (D:=D) (m:=m) (n:=n) (.inr (.inr ⟨ha,h3⟩))
   rw [z.1,z.2.1,z.2.2]
   exact rdo_n o a b a2 b2 d d2 A B C D m n rA rB rC rD ho h0 h3 OA OB w
  have hi : ¬zIll o m n:=by unfold zIll;omega
  have h1' : ¬argsK o=1:=by omega
  have i:=ap_iv o A B C D rA rB rC rD
  have AP:=fun w=>refapply_k o A B C D hI hJ w
  have LC:=fun w=>reflocal_any o A B C D _ _ rA rB rC rD i.1 i.2.1 w
  rw [rloc_two hI hJ] at LC
  have R:=rdo_two o a b a2 b2 d d2 A B C D m n _ _ _ rA rB rC rD i.1 i.2.1 ho h0 h3 OA OB AP LC w
  unfold zLo zHi zD
  rw [if_neg hi,if_neg hi,if_neg hi,if_neg h1',if_neg h1',if_neg h1']
  by_cases he:(A=PI∧B = -PI)∨(C=PI∧D = -PI)
  ·rw [if_pos he] at R ⊢;exact R
  ·rw [if_neg he] at R ⊢;exact R
end Go.Proofs.YteephgpefhodnaaGreat
