/- Package deco: Do, joined; spans.Do. -/
import Derived.Test.YteephgpefhodnaaGreatD3
namespace Go.Proofs.YteephgpefhodnaaGreat
open Go.RowKit Go.Sort Go.Fl
set_option linter.unusedSimpArgs false
set_option linter.unusedVariables false
def zIll (o m n:Int):Prop:=argsK o=0∨m=0∨(argsK o=2∧n=0)
instance (o m n:Int):Decidable (zIll o m n):=by unfold zIll;infer_instance
noncomputable def zLo (o A B C D m n:Int):Int:=if zIll o m n then PI else if argsK o=1 then apLo o A B A B else apLo o A B C D
noncomputable def zHi (o A B C D m n:Int):Int:=if zIll o m n then -PI else if argsK o=1 then apHi o A B A B else apHi o A B C D
noncomputable def zD (o A B C D m n:Int):Int :=
 if zIll o m n then 0
 else if argsK o=1 then (if A=PI∧B = -PI then min 1 m else min (localK o A B A B (apLo o A B A B) (apHi o A B A B)) m)
 else if (A=PI∧B = -PI)∨(C=PI∧D = -PI) then min 1 (min m n) else min (localK o A B C D (apLo o A B C D) (apHi o A B C D)) (min m n)
theorem iapply_k (o A B C D:Int) (h:Iv A B) (h':Iv C D) (w:World) :
  Calls Tryz.prog 54 #[.int .i64 o,.agg #[.float .f64 (ofKey (A)),.float .f64 (ofKey (B))],.agg #[.float .f64 (ofKey (C)),.float .f64 (ofKey (D))]] w fun e w'=>e = .returned (.agg #[.float .f64 (ofKey (apLo o A B C D)),.float .f64 (ofKey (apHi o A B C D))])∧Below w.heap.size w w':=by
 have a:=tk_canon h
 have b:=tk_canon h'
 have c:=ivlapply_any o (ofKey A) (ofKey B) (ofKey C) (ofKey D) (ofKey_lt h.1) (ofKey_lt h.2.1) (ofKey_lt h'.1) (ofKey_lt h'.2.1) w
 rw [a.1,a.2,b.1,b.2] at c
 exact c
theorem no_yes {A B:Int} (h:Iv A B) (hn:A=PI∧B = -PI) (w:World):Calls Tryz.prog 50 #[.agg #[.float .f64 (ofKey (A)),.float .f64 (ofKey (B))]] w fun e w'=>e = .returned (.bool true)∧Below w.heap.size w w':=by
 have:=ivlno_any A B h.1 h.2.1 w
 rw [decide_eq_true hn] at this;exact this
theorem no_no {A B:Int} (h:Iv A B) (hn : ¬(A=PI∧B = -PI)) (w:World):Calls Tryz.prog 50 #[.agg #[.float .f64 (ofKey (A)),.float .f64 (ofKey (B))]] w fun e w'=>e = .returned (.bool false)∧Below w.heap.size w w':=by
 have:=ivlno_any A B h.1 h.2.1 w
 rw [decide_eq_false hn] at this;exact this
theorem argsK_cases (o:Int):argsK o=0∨argsK o=1∨argsK o=2:=by
 unfold argsK;split
 ·exact .inr (.inl rfl)
 ·split
  ·exact .inr (.inr rfl)
  ·exact .inl rfl
theorem decodo_any (o:Int) (a b a2 b2:Nat) (d d2:Int) (wa:Wd a) (wb:Wd b) (wa2:Wd a2) (wb2:Wd b2) (w:World) :
  Calls Tryz.prog 65 #[.int .i64 o,.agg #[.float .f64 (a),.float .f64 (b),.int .i64 (d)],.agg #[.float .f64 (a2),.float .f64 (b2),.int .i64 (d2)]] w fun e w'=>e = .returned (.agg #[.float .f64 (ofKey (zLo o (dLo a b d) (dHi a b d) (dLo a2 b2 d2) (dHi a2 b2 d2) (dD a b d) (dD a2 b2 d2))),.float .f64 (ofKey (zHi o (dLo a b d) (dHi a b d) (dLo a2 b2 d2) (dHi a2 b2 d2) (dD a b d) (dD a2 b2 d2))),.int .i64 (zD o (dLo a b d) (dHi a b d) (dLo a2 b2 d2) (dHi a2 b2 d2) (dD a b d) (dD a2 b2 d2))])∧Below w.heap.size w w':=by
 have OA:=fun w=>decoof_any a b d wa wb w
 have OB:=fun w=>decoof_any a2 b2 d2 wa2 wb2 w
 have hI:=dc_iv a b d
 have hJ:=dc_iv a2 b2 d2
 generalize dLo a b d=A at *
 generalize dHi a b d=B at *
 generalize dD a b d=m at *
 generalize dLo a2 b2 d2=C at *
 generalize dHi a2 b2 d2=D at *
 generalize dD a2 b2 d2=n at *
 have NA:=fun w=>ivlargs_any o w
 have hr:=hI.1;have hr2:=hI.2.1;have hs:=hJ.1;have hs2:=hJ.2.1
 have apI:=fun (C D:Int) (h:Iv C D)=>ap_iv o A B C D hr hr2 h.1 h.2.1
 unfold zLo zHi zD
 rcases argsK_cases o with ha|ha|ha
 ·have hi:zIll o m n := .inl ha
  rw [if_pos hi,if_pos hi,if_pos hi]
  rw [ha] at NA
  exact do_none o a b a2 b2 d d2 A B C D m n hr hr2 hs hs2 NA OA OB w
 ·rw [ha] at NA
  by_cases h0:m=0
  ·have hi:zIll o m n := .inr (.inl h0)
   rw [if_pos hi,if_pos hi,if_pos hi]
   exact do_one_ill o a b a2 b2 d d2 A B C D m n hr hr2 hs hs2 h0 NA OA OB w
  ·have hi : ¬zIll o m n:=by unfold zIll;omega
   rw [if_neg hi,if_neg hi,if_neg hi,if_pos ha,if_pos ha,if_pos ha]
   have i:=apI A B hI
   by_cases he:A=PI∧B = -PI
   ·rw [if_pos he]
    exact do_one_e o a b a2 b2 d d2 A B C D m n hr hr2 hs hs2 _ _ 0 i.1 i.2.1 h0 NA OA OB (fun w=>iapply_k o A B A B hI hI w) (fun w=>no_yes hI he w) w
   ·rw [if_neg he]
    exact do_one o a b a2 b2 d d2 A B C D m n hr hr2 hs hs2 _ _ _ i.1 i.2.1 h0 NA OA OB (fun w=>iapply_k o A B A B hI hI w) (fun w=>no_no hI he w) (fun w=>decolocal_any o A B A B _ _ hr hr2 hr hr2 i.1 i.2.1 (fun _=>⟨rfl,rfl⟩) w) w
 ·rw [ha] at NA
  have h5 : ¬o=5:=by intro e;rw [e] at ha;exact absurd ha (by decide)
  have h1 : ¬argsK o=1:=by omega
  by_cases h0:m=0
  ·have hi:zIll o m n := .inr (.inl h0)
   rw [if_pos hi,if_pos hi,if_pos hi]
   exact do_two_ill1 o a b a2 b2 d d2 A B C D m n hr hr2 hs hs2 h0 NA OA OB w
  by_cases h2:n=0
  ·have hi:zIll o m n := .inr (.inr ⟨ha,h2⟩)
   rw [if_pos hi,if_pos hi,if_pos hi]
   exact do_two_ill2 o a b a2 b2 d d2 A B C D m n hr hr2 hs hs2 h0 h2 NA OA OB w
  have hi : ¬zIll o m n:=by unfold zIll;omega
  rw [if_neg hi,if_neg hi,if_neg hi,if_neg h1,if_neg h1,if_neg h1]
  have i:=apI C D hJ
  have AP:=fun w=>iapply_k o A B C D hI hJ w
  by_cases he:A=PI∧B = -PI
  ·rw [if_pos (.inl he)]
   exact do_two_e1 o a b a2 b2 d d2 A B C D m n hr hr2 hs hs2 _ _ 0 i.1 i.2.1 h0 h2 NA OA OB AP (fun w=>no_yes hI he w) w
  by_cases hf:C=PI∧D = -PI
  ·rw [if_pos (.inr hf)]
   exact do_two_e2 o a b a2 b2 d d2 A B C D m n hr hr2 hs hs2 _ _ 0 i.1 i.2.1 h0 h2 NA OA OB AP (fun w=>no_no hI he w) (fun w=>no_yes hJ hf w) w
  ·rw [if_neg (fun h=>h.elim he hf)]
   exact do_two o a b a2 b2 d d2 A B C D m n hr hr2 hs hs2 _ _ _ i.1 i.2.1 h0 h2 NA OA OB AP (fun w=>no_no hI he w) (fun w=>no_no hJ hf w) (fun w=>decolocal_any o A B C D _ _ hr hr2 hs hs2 i.1 i.2.1 (fun h=>absurd h h5) w) w
theorem z_rg (o A B C D m n:Int) (hI:Iv A B) (hJ:Iv C D):Rg (zLo o A B C D m n)∧Rg (zHi o A B C D m n):=by
 unfold zLo zHi
 split
 ·exact ⟨Rg_PI,Rg_MI⟩
 ·split
  ·have i:=ap_iv o A B A B hI.1 hI.2.1 hI.1 hI.2.1;exact ⟨i.1,i.2.1⟩
  ·have i:=ap_iv o A B C D hI.1 hI.2.1 hJ.1 hJ.2.1;exact ⟨i.1,i.2.1⟩
theorem spansdo_any (o:Int) (a b a2 b2:Nat) (d d2:Int) (wa:Wd a) (wb:Wd b) (wa2:Wd a2) (wb2:Wd b2) (w:World) :
  Calls Tryz.prog 33 #[.int .i64 o,.agg #[.float .f64 (a),.float .f64 (b),.int .i64 (d)],.agg #[.float .f64 (a2),.float .f64 (b2),.int .i64 (d2)]] w fun e w'=>e = .returned (.agg #[.float .f64 (ofKey (zLo o (dLo a b d) (dHi a b d) (dLo a2 b2 d2) (dHi a2 b2 d2) (dD a b d) (dD a2 b2 d2))),.float .f64 (ofKey (zHi o (dLo a b d) (dHi a b d) (dLo a2 b2 d2) (dHi a2 b2 d2) (dD a b d) (dD a2 b2 d2))),.int .i64 (zD o (dLo a b d) (dHi a b d) (dLo a2 b2 d2) (dHi a2 b2 d2) (dD a b d) (dD a2 b2 d2))])∧Below w.heap.size w w':=by
 have DO:=Lib.hid (fun w=>decodo_any o a b a2 b2 d d2 wa wb wa2 wb2 w)
 have q:=z_rg o (dLo a b d) (dHi a b d) (dLo a2 b2 d2) (dHi a2 b2 d2) (dD a b d) (dD a2 b2 d2) (dc_iv a b d) (dc_iv a2 b2 d2)
 obtain ⟨q1,q2⟩:=q
 generalize zLo o (dLo a b d) (dHi a b d) (dLo a2 b2 d2) (dHi a2 b2 d2) (dD a b d) (dD a2 b2 d2)=x at *
 generalize zHi o (dLo a b d) (dHi a b d) (dLo a2 b2 d2) (dHi a2 b2 d2) (dD a b d) (dD a2 b2 d2)=y at *
 generalize zD o (dLo a b d) (dHi a b d) (dLo a2 b2 d2) (dHi a2 b2 d2) (dD a b d) (dD a2 b2 d2)=z at *
 go_enter Tryz.func33,Tryz.ntmps33
 go_wp2_with fail
 refine (DO.out _).mono ?_;rintro e w1 ⟨rfl,hb⟩
 have H:=Hold.i333.below hb;clear hb;have F:=H.f;dsimp only [Fac] at F
 go_wp2_with fail
 refine (((H.set 6 _).set 7 _).set 8 _).gob ?_;clear H F;intro wz H;dsimp only [upd] at H;have F:=H.f;dsimp only [Fac] at F
 refine bodyPost_ret (by simp [results,Tryz.results33,go_sem,F]) rfl ⟨rfl,?_⟩;exact H.B
theorem dc_canon {A B:Int} (h:Iv A B) (d:Int):dLo (ofKey A) (ofKey B) d=(if d≤0∨4<d then PI else A)∧dHi (ofKey A) (ofKey B) d=(if d≤0∨4<d then -PI else B) ∧
  dD (ofKey A) (ofKey B) d=(if d≤0∨4<d then 0 else if A=PI∧B = -PI then 1 else if Bnd A B then d else min d 3):=by
 have g:good (ofKey A) (ofKey B)=true:=by rw [good_key h.1 h.2.1];exact decide_eq_true h.2.2
 have t:=tk_canon h
 unfold dLo dHi dD
 rw [t.1,t.2]
 by_cases hd:d≤0∨4<d
 ·have hi:dIll (ofKey A) (ofKey B) d:=by unfold dIll;omega
  rw [if_pos hi,if_pos hi,if_pos hi,if_pos hd,if_pos hd,if_pos hd];exact ⟨rfl,rfl,rfl⟩
 ·have hi : ¬dIll (ofKey A) (ofKey B) d:=by unfold dIll;rw [g];simp;omega
  rw [if_neg hi,if_neg hi,if_neg hi,if_neg hd,if_neg hd,if_neg hd];exact ⟨rfl,rfl,rfl⟩
end Go.Proofs.YteephgpefhodnaaGreat
