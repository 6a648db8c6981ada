/- A slice of structs of three integers that is handed over, opened. -/
import Derived.Test.YteephgpefhodnaaGreatV7
import Derived.ProofKit
import Derived.Deep.Slices
import Derived.Deep.Strs
namespace Go.Proofs.YteephgpefhodnaaGreat
open Go.RowKit Go.Sort Go.Fl Go.ChangeShapes Go.WideShapes Go.ChangeAt Go.Deep
set_option linter.unusedSimpArgs false
set_option linter.unusedVariables false
theorem cell_plain {W:World} {A:Addr} {v:Value} (h:W.cell? A=some v):W.cell? ⟨A.block,A.off,none⟩=some v:=by
 obtain ⟨b,o,s⟩:=A
 obtain rfl:=World.cell?_spot h
 exact h
theorem add_off (A:Addr) (n:Nat):(A.add n).block=A.block∧(A.add n).off=A.off+n:=by
 unfold Addr.add
 split
 ·rename_i h;subst h;exact ⟨rfl,rfl⟩
 ·exact ⟨rfl,rfl⟩
theorem cell_two {W:World} {b off i k:Nat} {spot:Option Nat} {v:Value} (h:W.cell? (((⟨b,off,spot⟩:Addr).add i).add k)=some v):W.cell? ⟨b,off+i+k,none⟩=some v:=by
 have:=cell_plain h
 rwa [(add_off _ k).1,(add_off _ k).2,(add_off _ i).1,(add_off _ i).2] at this
theorem open_rows {H:Type} {enc:TypeId × Value→H} {P:Program} {W:World} {base:Nat} {spare:Nat→Bool} {held:Bool} {r:Reach} {b0:Nat} {t e:TypeId} {k0 k1 k2:IntKind} {f0 f1 f2:Field} {v:Value} {d:DataW H} {p:List MemPlace}
  (ht:P.underlying t=some (.slice e)) (hs:P.underlying e=some (.struct #[f0,f1,f2])) (hC:P.cellsOf e=3)
  (u0:P.underlying f0.type=some (.int k0)) (u1:P.underlying f1.type=some (.int k1)) (u2:P.underlying f2.type=some (.int k2))
  (o0:f0.offset=0) (o1:f1.offset=1) (o2:f2.offset=2) (s0:P.cellsOf f0.type=1) (s1:P.cellsOf f1.type=1) (s2:P.cellsOf f2.type=1)
  (hv:Value.okWide P W r b0 t v) (h:DataW.Trod enc P W base spare held t v d p) :
  ∃ l:List Raw,Arg (cR k0 k1 k2) W v l ∧ ∀ x∈l,(Lit.int k0 x.1).wf=true∧(Lit.int k1 x.2.1).wf=true∧(Lit.int k2 x.2.2).wf=true:=by
 obtain ⟨a0,len,cap,rfl⟩:=okWide_slice ht hv
 obtain ⟨fuel,hf⟩:=h
 rcases open_slice ht hf with ⟨hcs,hx⟩|⟨a,len',cap',m,n,D,Pl,hcs,_,hl,hm,hmm,hx,hel⟩
 ·simp [Value.cells] at hcs
  obtain ⟨rfl,rfl,rfl⟩:=hcs
  exact ⟨[],⟨none,0,rfl,fun j hj=>absurd hj (Nat.not_lt_zero _)⟩,fun x hx=>by cases hx⟩
 ·simp [Value.cells] at hcs
  obtain ⟨rfl,rfl,rfl⟩:=hcs
  have hlm:len≤m:=by rw [hmm];split<;>omega
  obtain ⟨b,off,spot⟩:=a
  have hsp:0<len→spot=none:=fun h=>by
   obtain ⟨cs',hc,ht'⟩:=hel 0 (by omega)
   rw [hC] at hc
   obtain ⟨_,hl3,hcell⟩:=World.cells?_some hc
   match cs',hl3 with
   | [c0,c1,c2],_=>exact World.cell?_spot ((hcell 0 (by decide)).trans (by rfl:_=some c0))
  obtain ⟨V,hV⟩:=choose_lt (α:=Raw) (n:=len) (p:=fun i x=>(∀ k,k<3→W.cell? ⟨b,off+i*3+k,none⟩=(cR k0 k1 k2 x)[k]?)∧(Lit.int k0 x.1).wf=true∧(Lit.int k1 x.2.1).wf=true∧(Lit.int k2 x.2.2).wf=true) (fun i hi=>by
   obtain ⟨cs',hc,ht'⟩:=hel i (by omega)
   obtain ⟨y0,y1,y2,n',hD,hlen,h0,h1,h2⟩:=trod_struct3 hs ht'
   rw [hC] at hc
   obtain ⟨_,hl3,hcell⟩:=World.cells?_some hc
   match cs',hl3 with
   | [c0,c1,c2],_ =>
    rw [o0,s0] at h0
    rw [o1,s1] at h1
    rw [o2,s2] at h2
    obtain ⟨n0,e0,_,w0⟩:=DataW.trod_int u0 h0
    obtain ⟨n1,e1,_,w1⟩:=DataW.trod_int u1 h1
    obtain ⟨n2,e2,_,w2⟩:=DataW.trod_int u2 h2
    simp at e0 e1 e2
    subst e0 e1 e2
    refine ⟨(n0,n1,n2),fun k hk => ?_,w0,w1,w2⟩
    have:=hcell k hk
    match k,hk with
    | 0,_=>exact cell_two (this.trans rfl)
    | 1,_=>exact cell_two (this.trans rfl)
    | 2,_=>exact cell_two (this.trans rfl))
  refine ⟨(List.range len).map V,⟨some ⟨b,off,spot⟩,cap,by simp,fun j hj => ?_⟩,?_⟩
  ·rw [List.length_map,List.length_range] at hj
   obtain rfl:=hsp (by omega)
   have hg:((List.range len).map V).getD j zeroR=V j:=by
    rw [List.getD_eq_getElem?_getD,List.getElem?_map,List.getElem?_range hj];rfl
   rw [hg]
   have h0:=(hV j hj).1 0 (by decide)
   exact ⟨b,off,rfl,block_lt_of_cell (h0.trans (by rfl:_=some (Value.int k0 (V j).1))),(hV j hj).1⟩
  ·intro x hx
   obtain ⟨j,hj,rfl⟩:=List.mem_map.1 hx
   exact (hV j (by simpa using hj)).2
end Go.Proofs.YteephgpefhodnaaGreat
