/- Plain law of programs: what their steps do to a stack; that the document's test of a program says whether they can be done. -/
import Derived.Test.YteephgpefhodnaaGreatD4
import Derived.Test.YteephgpefhodnaaGreatV2
import Derived.LoopTactic
import Derived.Lib.Hide
import Derived.Laws.OwnMore
namespace Go.Proofs.YteephgpefhodnaaGreat
open Go.RowKit Go.Sort Go.Fl
set_option linter.unusedSimpArgs false
set_option linter.unusedVariables false
def ofD (x:De):De:=(ofKey (dLo x.1 x.2.1 x.2.2),ofKey (dHi x.1 x.2.1 x.2.2),dD x.1 x.2.1 x.2.2)
noncomputable def doD (o:Int) (x y:De):De :=
 (ofKey (zLo o (dLo x.1 x.2.1 x.2.2) (dHi x.1 x.2.1 x.2.2) (dLo y.1 y.2.1 y.2.2) (dHi y.1 y.2.1 y.2.2) (dD x.1 x.2.1 x.2.2) (dD y.1 y.2.1 y.2.2)),
 ofKey (zHi o (dLo x.1 x.2.1 x.2.2) (dHi x.1 x.2.1 x.2.2) (dLo y.1 y.2.1 y.2.2) (dHi y.1 y.2.1 y.2.2) (dD x.1 x.2.1 x.2.2) (dD y.1 y.2.1 y.2.2)),
 zD o (dLo x.1 x.2.1 x.2.2) (dHi x.1 x.2.1 x.2.2) (dLo y.1 y.2.1 y.2.2) (dHi y.1 y.2.1 y.2.2) (dD x.1 x.2.1 x.2.2) (dD y.1 y.2.1 y.2.2))
def WdD (x:De):Prop:=Wd x.1∧Wd x.2.1
def OkD (x:De):Prop := ∃ a b:Int,Rg a∧Rg b∧x.1=ofKey a∧x.2.1=ofKey b
theorem OkD.wd {x:De} (h:OkD x):WdD x:=by
 obtain ⟨a,b,ra,rb,e1,e2⟩:=h
 exact ⟨e1 ▸ ofKey_lt ra,e2 ▸ ofKey_lt rb⟩
theorem ok_ofD (x:De):OkD (ofD x):=⟨_,_,(dc_iv x.1 x.2.1 x.2.2).1,(dc_iv x.1 x.2.1 x.2.2).2.1,rfl,rfl⟩
theorem ok_doD (o:Int) (x y:De):OkD (doD o x y) :=
 ⟨_,_,(z_rg o _ _ _ _ _ _ (dc_iv x.1 x.2.1 x.2.2) (dc_iv y.1 y.2.1 y.2.2)).1,(z_rg o _ _ _ _ _ _ (dc_iv x.1 x.2.1 x.2.2) (dc_iv y.1 y.2.1 y.2.2)).2,rfl,rfl⟩
theorem ok_zero:OkD zeroD:=⟨0,0,Rg_zero,Rg_zero,zero_ofKey,zero_ofKey⟩
def illD:De:=(ofKey PI,ofKey (-PI),0)
theorem ok_ill:OkD illD:=⟨PI,-PI,Rg_PI,Rg_MI,rfl,rfl⟩
theorem ofD_ill {x:De} (h:(ofD x).2.2=0):ofD x=illD:=by
 by_cases hi:dIll x.1 x.2.1 x.2.2
 ·unfold ofD illD dLo dHi dD
  rw [if_pos hi,if_pos hi,if_pos hi]
 ·exfalso
  have h1:dD x.1 x.2.1 x.2.2=0:=h
  have h0 : ¬x.2.2≤0:=fun g=>hi (.inl g)
  unfold dD at h1
  rw [if_neg hi] at h1
  split at h1
  ·omega
  ·split at h1<;>omega
theorem ofD_none {x:De} (h:x.2.2≤0):ofD x=illD:=by
 have hi:dIll x.1 x.2.1 x.2.2 := .inl h
 unfold ofD illD dLo dHi dD
 rw [if_pos hi,if_pos hi,if_pos hi]
noncomputable def stepD (bx:List De) (s:St) (st:List De):Option (List De) :=
 if s.1=12∧fin s.2.2 then putD st (ofD (s.2.2,s.2.2,4))
 else if s.1=13∧0≤s.2.1∧s.2.1<bx.length then putD st (bx.getD s.2.1.toNat zeroD)
 else if 0≤s.1∧s.1≤5 then (if st.length=0 then none else putD (st.take (st.length-1)) (doD s.1 (st.getD (st.length-1) zeroD) (st.getD (st.length-1) zeroD)))
 else if 6≤s.1∧s.1≤11 then (if st.length<2 then none else putD (st.take (st.length-2)) (doD s.1 (st.getD (st.length-2) zeroD) (st.getD (st.length-1) zeroD)))
 else none
noncomputable def runD (bx:List De):List St→List De→Option (List De)
 | [],st=>some st
 | s::l,st=>(stepD bx s st).bind (runD bx l)
theorem runD_append (bx:List De) (l m:List St) (st:List De):runD bx (l++m) st=(runD bx l st).bind (runD bx m):=by
 induction l generalizing st with
 | nil=>rfl
 | cons s l ih =>
  simp only [List.cons_append,runD]
  cases stepD bx s st with
  | none=>rfl
  | some st'=>exact ih st'
theorem take_one {α:Type} (l:List α) (z:α) (i:Nat) (h:i<l.length):l.take (i+1)=l.take i++[l.getD i z]:=by
 rw [List.take_add_one,List.getD_eq_getElem?_getD,List.getElem?_eq_getElem h];rfl
theorem runD_step (bx:List De) (l:List St) (st:List De) (i:Nat) (h:i<l.length):runD bx (l.take (i+1)) st=(runD bx (l.take i) st).bind (stepD bx (l.getD i zeroS)):=by
 rw [take_one l zeroS i h,runD_append]
 congr 1
 funext s
 show (stepD bx (l.getD i zeroS) s).bind (runD bx [])=_
 cases stepD bx (l.getD i zeroS) s<;>rfl
theorem runD_none {bx:List De} {l:List St} {st:List De} {i:Nat} (h:runD bx (l.take i) st=none):runD bx l st=none:=by
 have:=runD_append bx (l.take i) (l.drop i) st
 rw [List.take_append_drop,h] at this
 exact this
def OkL (l:List De):Prop := ∀ x∈l,OkD x
theorem OkL.take {l:List De} (h:OkL l) (n:Nat):OkL (l.take n):=fun x m=>h x (List.mem_of_mem_take m)
theorem OkL.snoc {l:List De} (h:OkL l) {d:De} (hd:OkD d):OkL (l++[d]):=by
 intro x m
 rcases List.mem_append.1 m with m|m
 ·exact h x m
 ·rw [List.mem_singleton.1 m];exact hd
theorem OkL.getD {l:List De} (h:OkL l) (n:Nat):OkD (l.getD n zeroD):=by
 by_cases hn:n<l.length
 ·rw [List.getD_eq_getElem?_getD,List.getElem?_eq_getElem hn];exact h _ (List.getElem_mem hn)
 ·rw [List.getD_eq_getElem?_getD,List.getElem?_eq_none (by omega)];exact ok_zero
theorem ok_map (b:List De):OkL (b.map ofD):=by
 intro x m
 obtain ⟨y,_,rfl⟩:=List.mem_map.1 m
 exact ok_ofD y
theorem put_facts {st st':List De} {d:De} (h:putD st d=some st') (ok:OkL st) (hd:OkD d) (h8:st.length≤8):OkL st'∧st'.length≤8∧st'=st++[d]:=by
 unfold putD at h
 by_cases g:st.length=8
 ·rw [if_pos g] at h;cases h
 ·rw [if_neg g] at h;cases h
  exact ⟨ok.snoc hd,by rw [List.length_append];simp;omega,rfl⟩
theorem step_facts {bx st st':List De} {s:St} (h:stepD bx s st=some st') (ob:OkL bx) (ok:OkL st) (h8:st.length≤8):OkL st'∧st'.length≤8:=by
 unfold stepD at h
 split at h
 ·exact ⟨(put_facts h ok (ok_ofD _) h8).1,(put_facts h ok (ok_ofD _) h8).2.1⟩
 ·split at h
  ·exact ⟨(put_facts h ok (ob.getD _) h8).1,(put_facts h ok (ob.getD _) h8).2.1⟩
  ·split at h
   ·split at h
    ·cases h
    ·have:=put_facts h (ok.take _) (ok_doD _ _ _) (by rw [List.length_take];omega)
     exact ⟨this.1,this.2.1⟩
   ·split at h
    ·split at h
     ·cases h
     ·have:=put_facts h (ok.take _) (ok_doD _ _ _) (by rw [List.length_take];omega)
      exact ⟨this.1,this.2.1⟩
    ·cases h
theorem run_facts {bx:List De} (ob:OkL bx) : ∀ {l:List St} {st st':List De},runD bx l st=some st'→OkL st→st.length≤8→OkL st'∧st'.length≤8
 | [],st,st',h,ok,h8=>by cases h;exact ⟨ok,h8⟩
 | s::l,st,st',h,ok,h8=>by
  simp only [runD] at h
  cases hs:stepD bx s st with
  | none=>rw [hs] at h;cases h
  | some t =>
   rw [hs] at h
   have f:=step_facts hs ob ok h8
   exact run_facts ob h f.1 f.2
theorem okl_nil:OkL []:=fun _ h=>(by cases h)
noncomputable def evD (l:List St) (b:List De):De × Int :=
 if 4<b.length then (zeroD,1) else if 24<l.length then (zeroD,2)
 else match runD (b.map ofD) l [] with
  | some [x]=>(if b.any (fun y=>decide ((ofD y).2.2=0)) then illD else x,0)
  | _=>(zeroD,2)
theorem evD_ok (l:List St) (b:List De):OkD (evD l b).1:=by
 unfold evD
 split
 ·exact ok_zero
 ·split
  ·exact ok_zero
  ·split
   ·rename_i x h
    have f:=run_facts (ok_map b) h okl_nil (by simp)
    dsimp only
    split
    ·exact ok_ill
    ·exact f.1 x (by simp)
   ·exact ok_zero
theorem evD_box {l:List St} {b:List De} (h:4<b.length):evD l b=(zeroD,1):=by unfold evD;rw [if_pos h]
theorem evD_long {l:List St} {b:List De} (h : ¬4<b.length) (h2:24<l.length):evD l b=(zeroD,2):=by unfold evD;rw [if_neg h,if_pos h2]
theorem evD_none {l:List St} {b:List De} (h : ¬4<b.length) (h2 : ¬24<l.length) (hr:runD (b.map ofD) l []=none):evD l b=(zeroD,2):=by
 unfold evD;rw [if_neg h,if_neg h2,hr]
theorem evD_not {l:List St} {b:List De} {st:List De} (h : ¬4<b.length) (h2 : ¬24<l.length) (hr:runD (b.map ofD) l []=some st) (hn:st.length≠1):evD l b=(zeroD,2):=by
 unfold evD;rw [if_neg h,if_neg h2,hr]
 match st,hn with
 | [],_=>rfl
 | [x],hn=>exact absurd rfl hn
 | _::_::_,_=>rfl
theorem evD_one {l:List St} {b:List De} {st:List De} (h : ¬4<b.length) (h2 : ¬24<l.length) (hr:runD (b.map ofD) l []=some st) (hn:st.length=1) :
  evD l b=(if b.any (fun y=>decide ((ofD y).2.2=0)) then illD else st.getD 0 zeroD,0):=by
 unfold evD;rw [if_neg h,if_neg h2,hr]
 match st,hn with
 | [x],_=>rfl
def stepN (n:Nat) (s:St) (h:Nat):Option Nat :=
 if s.1=12 then (if fin s.2.2∧h<8 then some (h+1) else none)
 else if s.1=13 then (if 0≤s.2.1∧s.2.1<n∧h<8 then some (h+1) else none)
 else if 6≤s.1∧s.1≤11 then (if h<2 then none else some (h-1))
 else if s.1<0∨11<s.1∨h<1 then none else some h
theorem step_len (bx:List De) (s:St) (st:List De) (h8:st.length≤8):(stepD bx s st).map List.length=stepN bx.length s st.length:=by
 unfold stepD stepN putD
 by_cases h12:s.1=12
 ·rw [if_pos h12]
  by_cases hf:fin s.2.2
  ·rw [if_pos ⟨h12,hf⟩]
   by_cases g:st.length=8
   ·rw [if_pos g,if_neg (by omega)];rfl
   ·rw [if_neg g,if_pos ⟨hf,by omega⟩];simp
  ·rw [if_neg (fun g=>hf g.2),if_neg (by omega),if_neg (by omega),if_neg (by omega),if_neg (fun g=>hf g.1)];rfl
 ·rw [if_neg (fun g=>h12 g.1),if_neg h12]
  by_cases h13:s.1=13
  ·rw [if_pos h13]
   by_cases hi:0≤s.2.1∧s.2.1<bx.length
   ·rw [if_pos ⟨h13,hi⟩]
    by_cases g:st.length=8
    ·rw [if_pos g,if_neg (by omega)];rfl
    ·rw [if_neg g,if_pos (by omega)];simp
   ·rw [if_neg (fun g=>hi g.2),if_neg (by omega),if_neg (by omega),if_neg (by omega)];rfl
  ·rw [if_neg (fun g=>h13 g.1),if_neg h13]
   by_cases h1:0≤s.1∧s.1≤5
   ·rw [if_pos h1,if_neg (by omega : ¬(6≤s.1∧s.1≤11))]
    by_cases g:st.length=0
    ·rw [if_pos g,if_pos (by omega)];rfl
    ·rw [if_neg g,if_neg (by rw [List.length_take];omega),if_neg (by omega)]
     simp [List.length_take];omega
   ·rw [if_neg h1]
    by_cases h2:6≤s.1∧s.1≤11
    ·rw [if_pos h2,if_pos h2]
     by_cases g:st.length<2
     ·rw [if_pos g,if_pos g];rfl
     ·rw [if_neg g,if_neg (by rw [List.length_take];omega),if_neg g]
      simp [List.length_take];omega
    ·rw [if_neg h2,if_neg h2,if_pos (by omega)];rfl
def runN (n:Nat):List St→Nat→Option Nat
 | [],h=>some h
 | s::l,h=>(stepN n s h).bind (runN n l)
theorem run_len {bx:List De} (ob:OkL bx) : ∀ (l:List St) (st:List De),OkL st→st.length≤8→(runD bx l st).map List.length=runN bx.length l st.length
 | [],st,_,_=>rfl
 | s::l,st,ok,h8=>by
  simp only [runD,runN]
  have e:=step_len bx s st h8
  cases hs:stepD bx s st with
  | none=>rw [hs] at e;rw [←e];rfl
  | some t =>
   rw [hs] at e
   rw [←e]
   have f:=step_facts hs ob ok h8
   exact run_len ob l t f.1 f.2
theorem runN_append (n:Nat) (l m:List St) (h:Nat):runN n (l++m) h=(runN n l h).bind (runN n m):=by
 induction l generalizing h with
 | nil=>rfl
 | cons s l ih =>
  simp only [List.cons_append,runN]
  cases stepN n s h with
  | none=>rfl
  | some t=>exact ih t
theorem runN_step (n:Nat) (l:List St) (h i:Nat) (hi:i<l.length):runN n (l.take (i+1)) h=(runN n (l.take i) h).bind (stepN n (l.getD i zeroS)):=by
 rw [take_one l zeroS i hi,runN_append]
 congr 1
 funext s
 show (stepN n (l.getD i zeroS) s).bind (runN n [])=_
 cases stepN n (l.getD i zeroS) s<;>rfl
theorem runN_none {n:Nat} {l:List St} {h i:Nat} (hr:runN n (l.take i) h=none):runN n l h=none:=by
 have:=runN_append n (l.take i) (l.drop i) h
 rw [List.take_append_drop,hr] at this
 exact this
def progB (l:List St) (n:Nat):Bool:=decide (1≤l.length∧l.length≤24∧runN n l 0=some 1)
theorem prog_run {l:List St} {b:List De} (h:progB l b.length=true) : ∃ st,runD (b.map ofD) l []=some st∧st.length=1:=by
 have h:=(of_decide_eq_true h).2.2
 have e:=run_len (ok_map b) l [] okl_nil (by simp)
 rw [List.length_map] at e
 simp only [List.length_nil] at e
 rw [h] at e
 cases hr:runD (b.map ofD) l [] with
 | none=>rw [hr] at e;cases e
 | some st=>rw [hr] at e;exact ⟨st,rfl,by simpa using e⟩
theorem prog_not {l:List St} {b:List De} (hb : ¬4<b.length) (h:progB l b.length=false):evD l b=(zeroD,2):=by
 have h:=of_decide_eq_false h
 by_cases h2:24<l.length
 ·exact evD_long hb h2
 have e:=run_len (ok_map b) l [] okl_nil (by simp)
 rw [List.length_map] at e
 simp only [List.length_nil] at e
 cases hr:runD (b.map ofD) l [] with
 | none=>exact evD_none hb h2 hr
 | some st =>
  refine evD_not hb h2 hr (fun g=>h ⟨?_,by omega,?_⟩)
  ·cases l with
   | nil=>cases hr;simp at g
   | cons=>simp
  ·rw [←e,hr,Option.map_some,g]
end Go.Proofs.YteephgpefhodnaaGreat
