/- Plain laws of whole numbers that are kept as words of 32 digits, the lowest first. Slices of words: what they hold; trim, less. Slices of words: plus, minus. Slices of words: minus, shift. Slices of words: shift. -/
import Derived.Test.YteephgpefhodnaaGreatFC
import Derived.Test.YteephgpefhodnaaGreatAA
import Derived.Test.YteephgpefhodnaaGreatWA
import Derived.LoopTactic
import Derived.Lib.Hide
import Derived.Laws.OwnMore
namespace Go.Proofs.YteephgpefhodnaaGreat
open Go.Fl
def BB:Nat:=4294967296
theorem BB_eq:BB=4294967296:=rfl
theorem BB_pos:0<BB:=by decide
theorem BB_pow_pos (n:Nat):0<BB^n:=Nat.pow_pos BB_pos
def num:List Nat→Nat
 | []=>0
 | a::l=>a+BB*num l
def Words (l:List Nat):Prop := ∀ x,x∈l→x<BB
theorem Words.nil:Words []:=by intro x h;cases h
theorem Words.append {l m:List Nat} (h:Words l) (h':Words m):Words (l++m):=by
 intro x hx
 rcases List.mem_append.1 hx with h1|h1
 ·exact h x h1
 ·exact h' x h1
theorem Words.one {x:Nat} (h:x<BB):Words [x]:=by
 intro y hy
 simp at hy;omega
theorem Words.take {l:List Nat} (h:Words l) (n:Nat):Words (l.take n):=fun x hx=>h x (List.mem_of_mem_take hx)
theorem Words.getD {l:List Nat} (h:Words l) (n:Nat):l.getD n 0<BB:=by
 by_cases hn:n<l.length
 ·rw [List.getD_eq_getElem?_getD,List.getElem?_eq_getElem hn];exact h _ (List.getElem_mem hn)
 ·rw [List.getD_eq_getElem?_getD,List.getElem?_eq_none (by omega)];exact BB_pos
theorem num_append (l m:List Nat):num (l++m)=num l+BB^l.length*num m:=by
 induction l with
 | nil=>simp [num]
 | cons a l ih =>
  simp only [List.cons_append,num,ih,List.length_cons,Nat.pow_succ,Nat.mul_add,Nat.mul_assoc,Nat.mul_comm]
  omega
theorem num_one (x:Nat):num [x]=x:=by simp [num]
theorem num_snoc (l:List Nat) (x:Nat):num (l++[x])=num l+BB^l.length*x:=by rw [num_append,num_one]
theorem num_lt {l:List Nat} (h:Words l):num l<BB^l.length:=by
 induction l with
 | nil=>simp [num]
 | cons a l ih =>
  have h1:=h a List.mem_cons_self
  have h2:=ih (fun x hx=>h x (List.mem_cons_of_mem _ hx))
  simp only [num,List.length_cons,Nat.pow_succ]
  have:BB*(num l+1)≤BB*BB^l.length:=Nat.mul_le_mul_left _ h2
  rw [Nat.mul_comm (BB^l.length)]
  rw [Nat.mul_add,Nat.mul_one] at this
  omega
theorem take_succ (l:List Nat) (i:Nat) (h:i<l.length):l.take (i+1)=l.take i++[l.getD i 0]:=by
 rw [List.take_add_one,List.getD_eq_getElem?_getD,List.getElem?_eq_getElem h];rfl
theorem num_take (l:List Nat) (i:Nat):num (l.take (i+1))=num (l.take i)+BB^i*l.getD i 0:=by
 by_cases h:i<l.length
 ·rw [take_succ l i h,num_snoc,List.length_take,Nat.min_eq_left (by omega)]
 ·rw [List.take_of_length_le (by omega),List.take_of_length_le (by omega),List.getD_eq_getElem?_getD,List.getElem?_eq_none (by omega)];simp
theorem num_zeros (n:Nat):num (List.replicate n 0)=0:=by
 induction n with
 | zero=>rfl
 | succ n ih=>simp [List.replicate_succ,num,ih]
def Trim (l:List Nat):Prop:=l=[]∨l.getD (l.length-1) 0≠0
theorem num_pos {l:List Nat} (h:Trim l):num l=0↔l=[]:=by
 constructor
 ·intro h0
  rcases h with h|h
  ·exact h
  ·exfalso
   have hl:l.length≠0:=fun e=>h (by rw [List.length_eq_zero_iff.1 e];rfl)
   have e:=num_take l (l.length-1)
   rw [show l.length-1+1=l.length by omega,List.take_length,h0] at e
   have:=Nat.mul_pos (BB_pow_pos (l.length-1)) (Nat.pos_of_ne_zero h)
   omega
 ·rintro rfl;rfl
theorem num_ge {l:List Nat} (h:Trim l) (hl:l≠[]):BB^(l.length-1)≤num l:=by
 rcases h with h|h
 ·exact absurd h hl
 ·have hl:l.length≠0:=fun e=>h (by rw [List.length_eq_zero_iff.1 e];rfl)
  have e:=num_take l (l.length-1)
  rw [show l.length-1+1=l.length by omega,List.take_length] at e
  have:=Nat.mul_le_mul_left (BB^(l.length-1)) (Nat.one_le_iff_ne_zero.2 h)
  omega
theorem num_len {l m:List Nat} (hl:Words l) (hm:Trim m) (h:l.length<m.length):num l<num m:=by
 have a:=num_lt hl
 have b:=num_ge hm (fun e=>by rw [e] at h;simp at h)
 have c:BB^l.length≤BB^(m.length-1):=Nat.pow_le_pow_right BB_pos (by omega)
 omega
theorem num_split (l:List Nat) (i:Nat) (h:i≤l.length):num l=num (l.take i)+BB^i*num (l.drop i):=by
 have:=num_append (l.take i) (l.drop i)
 rw [List.take_append_drop,List.length_take,Nat.min_eq_left h] at this
 exact this
theorem less_at {a b:List Nat} (wa:Words a) (wb:Words b) (i:Nat) (ha:i<a.length) (hb:i<b.length) (h:a.drop (i+1)=b.drop (i+1)) (hne:a.getD i 0≠b.getD i 0):(num a<num b↔a.getD i 0<b.getD i 0):=by
 have e1:=num_split a (i+1) (by omega)
 have e2:=num_split b (i+1) (by omega)
 rw [num_take] at e1 e2
 have l1:=num_lt (wa.take i)
 have l2:=num_lt (wb.take i)
 rw [List.length_take,Nat.min_eq_left (by omega)] at l1 l2
 rw [h] at e1
 rcases Nat.lt_or_gt_of_ne hne with g|g
 ·have:=Nat.mul_le_mul_left (BB^i) (show a.getD i 0+1≤b.getD i 0 from g)
  rw [Nat.mul_add,Nat.mul_one] at this
  constructor
  ·exact fun _=>g
  ·intro _;omega
 ·have:=Nat.mul_le_mul_left (BB^i) (show b.getD i 0+1≤a.getD i 0 from g)
  rw [Nat.mul_add,Nat.mul_one] at this
  constructor
  ·intro _;omega
  ·intro _;omega
theorem drop_step {a b:List Nat} (i:Nat) (ha:i<a.length) (hb:i<b.length) (h:a.drop (i+1)=b.drop (i+1)) (he:a.getD i 0=b.getD i 0):a.drop i=b.drop i:=by
 rw [List.drop_eq_getElem_cons ha,List.drop_eq_getElem_cons hb,h]
 rw [List.getD_eq_getElem?_getD,List.getD_eq_getElem?_getD,List.getElem?_eq_getElem ha,List.getElem?_eq_getElem hb] at he
 simp at he
 rw [he]
def PlusAt (a b out:List Nat) (i c:Nat):Prop:=out.length=i∧Words out∧c≤1∧num out+BB^i*c=num (a.take i)+num (b.take i)
theorem digit_step {B c:Nat} (p:Nat):p*(c%B)+p*B*(c / B)=p*c:=by
 have h:=congrArg (fun t=>p*t) (Nat.mod_add_div c B)
 simp only [Nat.mul_add] at h
 rw [Nat.mul_assoc]
 exact h
theorem plus_step {a b out:List Nat} {i c:Nat} (wa:Words a) (wb:Words b) (h:PlusAt a b out i c) :
  PlusAt a b (out++[(c+a.getD i 0+b.getD i 0)%BB]) (i+1) ((c+a.getD i 0+b.getD i 0) / BB):=by
 obtain ⟨h1,h2,h3,h4⟩:=h
 have g1:=wa.getD i
 have g2:=wb.getD i
 refine ⟨by simp [h1],h2.append (Words.one (Nat.mod_lt _ BB_pos)),?_,?_⟩
 ·have:c+a.getD i 0+b.getD i 0<BB*2:=by omega
  have:=(Nat.div_lt_iff_lt_mul BB_pos).2 (show c+a.getD i 0+b.getD i 0<2*BB by omega)
  omega
 ·rw [num_snoc,num_take,num_take,h1]
  have e:=digit_step (B:=BB) (c:=c+a.getD i 0+b.getD i 0) (BB^i)
  rw [Nat.mul_add,Nat.mul_add] at e
  rw [Nat.pow_succ]
  omega
theorem plus_done {a b out:List Nat} {i c:Nat} (h:PlusAt a b out i c) (ha:a.length≤i) (hb:b.length≤i):Words (out++[c])∧num (out++[c])=num a+num b:=by
 obtain ⟨h1,h2,h3,h4⟩:=h
 rw [List.take_of_length_le ha,List.take_of_length_le hb] at h4
 refine ⟨h2.append (Words.one (by have:=BB_eq;omega)),?_⟩
 rw [num_snoc,h1];omega
def MinusAt (a b out:List Nat) (i:Nat) (c:Int):Prop:=out.length=i∧Words out ∧ -1≤c∧c≤0∧(num out:Int)+(BB:Int)^i*c=num (a.take i)-num (b.take i)
theorem minus_step {a b out:List Nat} {i:Nat} {c:Int} (wa:Words a) (wb:Words b) (h:MinusAt a b out i c) :
  MinusAt a b (out++[((c+a.getD i 0-b.getD i 0)%(BB:Int)).toNat]) (i+1) ((c+a.getD i 0-b.getD i 0) / (BB:Int)):=by
 obtain ⟨h1,h2,h3,h4,h5⟩:=h
 have g1:=wa.getD i
 have g2:=wb.getD i
 have hB:(0:Int)<(BB:Int):=Int.ofNat_lt.2 BB_pos
 generalize hd:c+(a.getD i 0:Int)-(b.getD i 0:Int)=d at *
 have m1:=Int.emod_nonneg d (show (BB:Int)≠0 by omega)
 have m2:=Int.emod_lt_of_pos d hB
 have e0:=Int.mul_ediv_add_emod d (BB:Int)
 refine ⟨by simp [h1],h2.append (Words.one (by omega)),?_,?_,?_⟩
 ·have : -1*(BB:Int)≤d:=by omega
  exact (Int.le_ediv_iff_mul_le hB).2 this
 ·have:d<(0+1)*(BB:Int):=by omega
  have:=(Int.ediv_lt_iff_lt_mul hB).2 this
  omega
 ·rw [num_snoc,num_take,num_take,h1]
  have e1:((d%(BB:Int)).toNat:Int)=d%(BB:Int):=Int.toNat_of_nonneg m1
  have e2:(BB:Int)^i*(d%(BB:Int))+(BB:Int)^(i+1)*(d / (BB:Int))=(BB:Int)^i*d:=by
   rw [Int.pow_succ,Int.mul_assoc,←Int.mul_add]
   exact congrArg _ (by omega)
  simp only [Int.natCast_add,Int.natCast_mul,Int.natCast_pow]
  rw [e1]
  have e3:(BB:Int)^i*d=(BB:Int)^i*c+(BB:Int)^i*(a.getD i 0:Int)-(BB:Int)^i*(b.getD i 0:Int):=by rw [←hd,Int.mul_sub,Int.mul_add]
  omega
theorem minus_done {a b out:List Nat} {i:Nat} {c:Int} (h:MinusAt a b out i c) (ha:a.length=i) (hb:b.length≤i) (hle:num b≤num a):num out=num a-num b:=by
 obtain ⟨h1,h2,h3,h4,h5⟩:=h
 rw [List.take_of_length_le (by omega),List.take_of_length_le hb] at h5
 have l:=num_lt h2
 rw [h1] at l
 have hc:c=0:=by
  by_cases h0:c=0
  ·exact h0
  ·exfalso
   have e:c = -1:=by omega
   rw [e] at h5
   have:(num out:Int)<((BB^i:Nat):Int):=Int.ofNat_lt.2 l
   rw [Int.natCast_pow] at this
   omega
 rw [hc] at h5
 omega
def ShiftAt (a out:List Nat) (z k i c:Nat):Prop := ∃ o,out=List.replicate z 0++o∧o.length=i∧Words o∧c<2^k∧num o+BB^i*c=2^k*num (a.take i)
theorem shift_step {a out:List Nat} {z k i c:Nat} (wa:Words a) (h:ShiftAt a out z k i c) :
  ShiftAt a (out++[(c+a.getD i 0*2^k)%BB]) z k (i+1) ((c+a.getD i 0*2^k) / BB):=by
 obtain ⟨o,h0,h1,h2,h3,h4⟩:=h
 have g1:=wa.getD i
 refine ⟨o++[(c+a.getD i 0*2^k)%BB],by rw [h0,List.append_assoc],by simp [h1],h2.append (Words.one (Nat.mod_lt _ BB_pos)),?_,?_⟩
 ·refine (Nat.div_lt_iff_lt_mul BB_pos).2 ?_
  have:=Nat.mul_le_mul_right (2^k) (show a.getD i 0+1≤BB from g1)
  rw [Nat.add_mul,Nat.one_mul] at this
  rw [Nat.mul_comm (2^k)]
  omega
 ·rw [num_snoc,num_take,h1]
  have e:=digit_step (B:=BB) (c:=c+a.getD i 0*2^k) (BB^i)
  rw [Nat.mul_add (BB^i)] at e
  rw [Nat.pow_succ,Nat.mul_add (2^k),show 2^k*(BB^i*a.getD i 0)=BB^i*(a.getD i 0*2^k) by rw [Nat.mul_left_comm,Nat.mul_comm (2^k)]]
  omega
theorem Words.zeros (n:Nat):Words (List.replicate n 0):=by
 intro x hx
 rw [(List.mem_replicate.1 hx).2];exact BB_pos
theorem shift_done {a out:List Nat} {z k i c:Nat} (h:ShiftAt a out z k i c) (ha:a.length≤i) (hk:k<32):Words (out++[c])∧num (out++[c])=2^(32*z+k)*num a:=by
 obtain ⟨o,h0,h1,h2,h3,h4⟩:=h
 rw [List.take_of_length_le ha] at h4
 have hc:c<BB:=by
  have:2^k≤2^32:=Nat.pow_le_pow_right (by decide) (by omega)
  have:=BB_eq
  omega
 subst h0
 refine ⟨((Words.zeros z).append h2).append (Words.one hc),?_⟩
 rw [List.append_assoc,num_append,num_zeros,num_snoc,h1,h4,List.length_replicate,Nat.zero_add,Nat.pow_add,Nat.pow_mul,←Nat.mul_assoc]
 rfl
theorem num_set (l:List Nat) (i x:Nat) (h:i<l.length):num (l.set i x)+BB^i*l.getD i 0=num l+BB^i*x:=by
 have e1:=num_split (l.set i x) (i+1) (by simp;omega)
 have e2:=num_split l (i+1) (by omega)
 rw [num_take] at e1 e2
 rw [List.take_set_of_le (by omega),List.drop_set_of_lt (by omega)] at e1
 rw [List.getD_eq_getElem?_getD,List.getElem?_set_self h] at e1
 simp only [Option.getD_some] at e1
 omega
theorem Words.set {l:List Nat} (h:Words l) (i:Nat) {x:Nat} (hx:x<BB):Words (l.set i x):=by
 intro y hy
 rcases List.mem_or_eq_of_mem_set hy with h1|h1
 ·exact h y h1
 ·omega
theorem getD_set_ne (l:List Nat) {i j:Nat} (x:Nat) (h:i≠j):(l.set i x).getD j 0=l.getD j 0:=by
 rw [List.getD_eq_getElem?_getD,List.getD_eq_getElem?_getD,List.getElem?_set_ne h]
def TimesAt (a b out:List Nat) (i:Nat):Prop:=out.length=a.length+b.length∧Words out∧num out=num (a.take i)*num b ∧ ∀ t,i+b.length≤t→out.getD t 0=0
def TimesIn (a b out:List Nat) (i j c:Nat):Prop:=out.length=a.length+b.length∧Words out∧c<BB ∧
 num out+BB^(i+j)*c=num (a.take i)*num b+BB^i*(a.getD i 0*num (b.take j)) ∧ ∀ t,i+b.length≤t→out.getD t 0=0
theorem times_in {a b out:List Nat} {i:Nat} (h:TimesAt a b out i):TimesIn a b out i 0 0:=by
 obtain ⟨h1,h2,h3,h4⟩:=h
 exact ⟨h1,h2,BB_pos,by simp [num,h3],h4⟩
theorem times_bound {c x y z:Nat} (hc:c<BB) (hx:x<BB) (hy:y<BB) (hz:z<BB):c+x*y+z<BB*BB:=by
 have h1:x*y≤(BB-1)*(BB-1):=Nat.mul_le_mul (by omega) (by omega)
 have e:(BB-1)*(BB-1)+2*(BB-1)+1=BB*BB:=by decide
 omega
theorem times_step {a b out:List Nat} {i j c:Nat} (wa:Words a) (wb:Words b) (h:TimesIn a b out i j c) (hi:i<a.length) (hj:j<b.length) :
  TimesIn a b (out.set (i+j) ((c+a.getD i 0*b.getD j 0+out.getD (i+j) 0)%BB)) i (j+1) ((c+a.getD i 0*b.getD j 0+out.getD (i+j) 0) / BB):=by
 obtain ⟨h1,h2,h3,h4,h5⟩:=h
 have g1:=wa.getD i
 have g2:=wb.getD j
 have g3:=h2.getD (i+j)
 refine ⟨by simp [h1],h2.set _ (Nat.mod_lt _ BB_pos),(Nat.div_lt_iff_lt_mul BB_pos).2 (times_bound h3 g1 g2 g3),?_,fun t ht => ?_⟩
 ·have e:=num_set out (i+j) ((c+a.getD i 0*b.getD j 0+out.getD (i+j) 0)%BB) (by omega)
  have e2:=digit_step (B:=BB) (c:=c+a.getD i 0*b.getD j 0+out.getD (i+j) 0) (BB^(i+j))
  rw [num_take,Nat.mul_add (a.getD i 0),Nat.mul_add (BB^i)]
  rw [Nat.mul_add (BB^(i+j)),Nat.mul_add (BB^(i+j))] at e2
  have e3:BB^i*(a.getD i 0*(BB^j*b.getD j 0))=BB^(i+j)*(a.getD i 0*b.getD j 0):=by
   rw [Nat.pow_add,Nat.mul_assoc,Nat.mul_left_comm (a.getD i 0)]
  rw [show i+(j+1)=i+j+1 by omega,Nat.pow_succ]
  omega
 ·rw [getD_set_ne _ _ (by omega)];exact h5 t ht
theorem times_out {a b out:List Nat} {i c:Nat} (h:TimesIn a b out i b.length c) (hi:i<a.length):TimesAt a b (out.set (i+b.length) c) (i+1):=by
 obtain ⟨h1,h2,h3,h4,h5⟩:=h
 refine ⟨by simp [h1],h2.set _ h3,?_,fun t ht => ?_⟩
 ·have e:=num_set out (i+b.length) c (by omega)
  rw [h5 (i+b.length) (Nat.le_refl _)] at e
  rw [List.take_length] at h4
  rw [num_take,Nat.add_mul]
  have:BB^i*(a.getD i 0*num b)=BB^i*a.getD i 0*num b:=by rw [Nat.mul_assoc]
  omega
 ·rw [getD_set_ne _ _ (by omega)];exact h5 t (by omega)
end Go.Proofs.YteephgpefhodnaaGreat
namespace Go.Proofs.YteephgpefhodnaaGreat
open Go.RowKit Go.Sort Go.Fl
set_option linter.unusedSimpArgs false
set_option linter.unusedVariables false
def W32 (n:Nat):Value := .int .u32 (n:Int)
def Row (w:World) (v:Value) (l:List Nat):Prop:=w.ownsRow 0 115 1 v l.length (l.map W32)
theorem Row.cases {w:World} {v:Value} {l:List Nat} (h:Row w v l) :
  (v = .slice none 0 0∧l=[]) ∨ ∃ g cap,v = .slice (some ⟨g,0,none⟩) l.length cap∧l.length≤cap∧cap≤maxLen∧g<w.heap.size ∧ ∀ j,j<l.length→w.cell? ⟨g,j,none⟩=some (.int .u32 (l.getD j 0:Nat)):=by
 have hc:=fun g (e:v.ownBlock=some g)=>World.ownsRow.cells h e
 have hl:=World.ownsRow.lt h
 rcases h.2 with ⟨h1,h2⟩|⟨g,cap,cur,rfl,_,h3,h4,h5,_,_⟩
 ·exact .inl ⟨h1,List.length_eq_zero_iff.1 h2⟩
 ·refine .inr ⟨g,cap,rfl,h4,h5,(hl g rfl).2,fun j hj => ?_⟩
  have:=hc g rfl j (W32 (l.getD j 0)) (by
   rw [List.getElem?_map,List.getD_eq_getElem?_getD,List.getElem?_eq_getElem hj];rfl)
  have e:(⟨g,0,none⟩:Addr).add j=⟨g,j,none⟩:=by unfold Addr.add;split<;>simp_all
  rw [e] at this
  exact this
theorem Row.below {w w':World} {v:Value} {l:List Nat} (h:Row w v l) (hb:Below w.heap.size w w'):Row w' v l:=by
 refine ⟨h.1,?_⟩
 rcases h.2 with h1|⟨g,cap,cur,rfl,h2,h3,rest⟩
 ·exact .inl h1
 ·exact .inr ⟨g,cap,cur,rfl,h2,(hb.block g (Array.getElem?_eq_some_iff.1 h3).1).trans h3,rest⟩
theorem Row.take {w:World} {g n cap:Nat} {l:List Nat} (h:Row w (.slice (some ⟨g,0,none⟩) n cap) l) (k:Nat) (hk:k≤l.length):Row w (.slice (some ⟨g,0,none⟩) k cap) (l.take k):=by
 rcases h.2 with ⟨h1,_⟩|⟨g',cap',cur,e,h2,h3,h4,h5,h6,h7⟩
 ·cases h1
 ·cases e
  refine ⟨by simp [List.length_take],.inr ⟨g,cap,cur,?_,h2,h3,?_,h5,h6,?_⟩⟩
  ·rw [List.length_take,Nat.min_eq_left hk]
  ·rw [List.length_take];omega
  ·rw [List.length_take,Nat.min_eq_left hk,List.map_take,←h7,List.take_take,Nat.mul_one,Nat.mul_one,Nat.min_eq_left hk]
def lenOf:Value→Nat
 | .slice _ n _=>n
 | _=>0
theorem num_drop_last {l:List Nat} {k:Nat} (h:0<k) (h0:l.getD (k-1) 0=0):num (l.take (k-1))=num (l.take k):=by
 have:=num_take l (k-1)
 rw [show k-1+1=k by omega,h0] at this
 omega
theorem trim_take {l:List Nat} {k:Nat} (hk:k≤l.length) (h:0<k) (h0 : ¬l.getD (k-1) 0=0):Trim (l.take k):=by
 right
 rw [List.length_take,Nat.min_eq_left hk,List.getD_eq_getElem?_getD,List.getElem?_take_of_lt (by omega),←List.getD_eq_getElem?_getD]
 exact h0
def Gives (w:World) (e:Ending) (N:Nat):Prop := ∃ v l,e = .returned v∧Row w v l∧Words l∧Trim l∧num l=N
theorem trim_any (v:Value) (l:List Nat) (hw:Words l) (w:World) (hr:Row w v l) :
  Calls Tryz.prog 131 #[v] w fun e w'=>Gives w' e (num l)∧w'=w:=by
 rcases hr.cases with ⟨rfl,rfl⟩|⟨g,cap,rfl,h1,h2,hg,hc⟩
 ·go_enter Tryz.func131,Tryz.ntmps131
  go_wp2
  go_loop [0] (fun d=>d = .slice none 0 0) (fun d=>lenOf d)
  case atStart=>rfl
  case round =>
   subst hrel
   go_wp2
   go_ret
   exact ⟨⟨_,[],rfl,hr,hw,.inl rfl,rfl⟩,rfl⟩
 ·go_enter Tryz.func131,Tryz.ntmps131
  go_wp2
  unfold maxLen at h2
  go_loop [0] (fun d => ∃ k:Nat,k≤l.length∧d = .slice (some ⟨g,0,none⟩) k cap∧num (l.take k)=num l) (fun d=>lenOf d)
  case atStart=>exact ⟨l.length,Nat.le_refl _,rfl,by rw [List.take_length]⟩
  case round =>
   obtain ⟨k,hk,rfl,hn⟩:=hrel
   have hcell:0<k→w.cell? ⟨g,k-1,none⟩=some (.int .u32 (l.getD (k-1) 0:Nat)):=fun _=>hc _ (by omega)
   go_wp2
   ·have h0:0<k:=by assumption
    have hq:((l[k-1]?.getD 0:Nat)==(0:Int))=true:=by assumption
    go_round
    case rel=>exact ⟨k-1,by omega,rfl,by rw [num_drop_last h0 (by rw [List.getD_eq_getElem?_getD];have:=eq_of_beq hq;omega)];exact hn⟩
    case measure=>simp only [lenOf];omega
   ·have h0:0<k:=by assumption
    have hq:((l[k-1]?.getD 0:Nat)==(0:Int))=false:=by assumption
    go_ret
    exact ⟨⟨_,l.take k,rfl,hr.take k hk,hw.take k,trim_take hk h0 (by rw [List.getD_eq_getElem?_getD];have:=ne_of_beq_false hq;omega),hn⟩,rfl⟩
   ·have h0:k=0:=by omega
    subst h0
    go_ret
    exact ⟨⟨_,l.take 0,rfl,hr.take 0 hk,hw.take 0,.inl (by simp),hn⟩,rfl⟩
theorem Row.len {w:World} {v:Value} {l:List Nat} (h:Row w v l) : ∃ p cap,v = .slice p l.length cap∧l.length≤9223372036854775807:=by
 rcases h.cases with ⟨rfl,rfl⟩|⟨g,cap,rfl,h1,h2,_⟩
 ·exact ⟨none,0,rfl,by simp⟩
 ·unfold maxLen at h2
  exact ⟨_,cap,rfl,by omega⟩
theorem below_drewN {B n:Nat} {w w':World} (h:Below B w w'):Below B w (w'.drewN n):=h.trans ⟨rfl,rfl,rfl,Nat.le_refl _,fun _ _=>rfl⟩
theorem less_any (v u:Value) (a b:List Nat) (wa:Words a) (wb:Words b) (ta:Trim a) (tb:Trim b) (w:World) (hr:Row w v a) (hs:Row w u b) :
  Calls Tryz.prog 134 #[v,u] w fun e w'=>e = .returned (.bool (decide (num a<num b)))∧Below w.heap.size w w':=by
 by_cases hl:a.length=b.length
 ·by_cases h0:a.length=0
  ·have ea:=List.length_eq_zero_iff.1 h0
   have eb:=List.length_eq_zero_iff.1 (hl ▸ h0)
   obtain ⟨p,c,rfl,_⟩:=hr.len
   obtain ⟨p',c',rfl,_⟩:=hs.len
   subst ea
   subst eb
   simp only [List.length_nil]
   go_enter Tryz.func134,Tryz.ntmps134
   go_wp2
   go_loop [5] (fun i=>i = .int .i64 (-1)) (fun i=>0)
   case atStart=>rfl
   case round =>
    subst hrel
    go_wp2
    go_ret
    exact ⟨rfl,Below.refl _ _⟩
  ·rcases hr.cases with ⟨_,ea⟩|⟨g,c,rfl,h1,h2,_,hc⟩
   ·rw [ea] at h0;exact absurd rfl h0
   rcases hs.cases with ⟨_,eb⟩|⟨g',c',rfl,h1',h2',_,hc'⟩
   ·rw [eb] at hl;rw [hl] at h0;exact absurd rfl h0
   unfold maxLen at h2 h2'
   obtain ⟨n,hn⟩ : ∃ n,b.length=n:=⟨_,rfl⟩
   rw [hn] at hl
   rw [hl] at hc h1 h0 ⊢
   rw [hn] at hc' h1' ⊢
   have hz:decide (num a<num b)=false ↔ ¬num a<num b:=by simp
   go_enter Tryz.func134,Tryz.ntmps134
   go_wp2
   go_loopw [5] (fun i wr => ∃ k:Nat,k≤n∧i = .int .i64 ((k:Int)-1)∧a.drop k=b.drop k∧Below w.heap.size w wr) (fun i _=>(intOf i+1).toNat)
   case atStart=>exact ⟨n,Nat.le_refl _,by go_num,by rw [List.drop_of_length_le (by omega),List.drop_of_length_le (by omega)],Below.refl _ _⟩
   case round =>
    obtain ⟨k,hk,rfl,hd,hB⟩:=hrel
    go_wp2
    ·have h1k:(1:Int)≤(k:Int):=by assumption
     have hA:=RowKit.Below.cells hB (hc (k-1) (by omega))
     have hA':=RowKit.Below.cells hB (hc' (k-1) (by omega))
     have hd':a.drop (k-1+1)=b.drop (k-1+1):=by rw [show k-1+1=k by omega];exact hd
     refine wp_region_quiet_lit (by kernel_rfl) (by kernel_rfl) ?_
     repeat (any_goals (first|go_big_quiet_step (fail)|quiet_step (fail)|(refine wpQuiet_step (fun K hK => ?_);go_simp;split<;>(refine hK _ ?_;clear hK K))))
     all_goals (refine wpQuiet_nil ?_;intro _ hw';obtain ⟨nq,hw''⟩:=hw';subst hw'')
     go_wp2
     ·have hq:((a[k-1]?.getD 0:Nat) != ((b[k-1]?.getD 0:Nat):Int))=true:=by assumption
      have hne:a.getD (k-1) 0≠b.getD (k-1) 0:=by
       rw [List.getD_eq_getElem?_getD,List.getD_eq_getElem?_getD]
       intro e
       rw [e] at hq
       simp at hq
      have hl2:=less_at wa wb (k-1) (by omega) (by omega) hd' hne
      rw [List.getD_eq_getElem?_getD,List.getD_eq_getElem?_getD] at hl2
      refine wp_region_quiet_lit (by kernel_rfl) (by kernel_rfl) ?_
      repeat (any_goals (first|go_big_quiet_step (fail)|quiet_step (fail)|(refine wpQuiet_step (fun K hK => ?_);go_simp;split<;>(refine hK _ ?_;clear hK K))))
      all_goals (refine wpQuiet_nil ?_;intro _ hw';obtain ⟨nq,hw''⟩:=hw';subst hw'')
      go_wp2
      go_ret
      exact ⟨ret_b (decide_eq_decide.2 (by rw [hl2];first|done|exact Int.ofNat_lt)),below_drewN (below_drewN hB)⟩
     ·have hq:((a[k-1]?.getD 0:Nat) != ((b[k-1]?.getD 0:Nat):Int))=false:=by assumption
      have he:a.getD (k-1) 0=b.getD (k-1) 0:=by
       rw [List.getD_eq_getElem?_getD,List.getD_eq_getElem?_getD]
       have:=eq_of_beq (by simpa using hq:((a[k-1]?.getD 0:Nat)==((b[k-1]?.getD 0:Nat):Int))=true)
       omega
      go_roundw
      case rel=>exact ⟨k-1,by omega,by go_num,drop_step (k-1) (by omega) (by omega) hd' he,below_drewN hB⟩
      case measure=>simp only [intOf];omega
    ·have h0:k=0:=by omega
     subst h0
     rw [List.drop_zero,List.drop_zero] at hd
     subst hd
     go_ret
     exact ⟨ret_b (by simp),hB⟩
 ·obtain ⟨p,c,rfl,_⟩:=hr.len
  obtain ⟨p',c',rfl,_⟩:=hs.len
  have e:decide (num a<num b)=decide (a.length<b.length):=by
   by_cases h:a.length<b.length
   ·rw [decide_eq_true h,decide_eq_true (num_len wa tb h)]
   ·have:=num_len wb ta (show b.length<a.length by omega)
    rw [decide_eq_false h,decide_eq_false (by omega)]
  rw [e]
  go_enter Tryz.func134,Tryz.ntmps134
  go_wp2
  go_ret
  exact ⟨rfl,Below.refl _ _⟩
end Go.Proofs.YteephgpefhodnaaGreat
namespace Go.Proofs.YteephgpefhodnaaGreat
open Go.RowKit Go.Sort Go.Fl
set_option linter.unusedSimpArgs false
set_option linter.unusedVariables false
theorem info_u32:(Tryz.prog.info? 115).map (fun i=>(i.zero,i.size,i.bytes))=some (some (.int .u32 0),1,4):=by kernel_rfl
theorem grown_below {B:Nat} {w wr w1:World} {row:Option Nat} (hB:Below B w wr) (hg:wr.grownBy w1 row) (hr : ∀ k,row=some k→B≤k) (hs:B≤w.heap.size):Below B w w1 :=
 hB.trans ⟨hg.os,hg.tape,hg.output,hg.size,fun k hk=>hg.block k (by have:=hB.size;omega) (fun e=>by have:=hr k e.symm;omega)⟩
theorem append_rel {w wr w1:World} {v v':Value} {o:List Nat} {d:Nat} {u:Value} {obj:Obj} (hB:Below w.heap.size w wr) (hown:wr.ownsRow w.heap.size 115 1 v o.length (o.map W32))
  (hown':w1.ownsRow w.heap.size 115 1 v' (o.length+1) (o.map W32++[u])) (hg:(wr.alloc obj).grownBy w1 v.ownBlock) (hu:u=W32 d) :
  w1.ownsRow w.heap.size 115 1 v' (o++[d]).length ((o++[d]).map W32)∧Below w.heap.size w w1:=by
 constructor
 ·rw [List.length_append,List.map_append,List.map_singleton,←hu]
  exact hown'
 ·exact grown_below (hB.alloc hB.size obj) hg (fun k hk=>(World.ownsRow.lt hown k hk).1) (Nat.le_refl _)
theorem own_row {w:World} {B n:Nat} {v:Value} {l:List Nat} (h:w.ownsRow B 115 1 v n (l.map W32)) (hn:n=l.length):Row w v l:=by
 subst hn
 refine ⟨h.1,?_⟩
 rcases h.2 with h1|⟨g,cap,cur,e,h2,rest⟩
 ·exact .inl h1
 ·exact .inr ⟨g,cap,cur,e,Nat.zero_le _,rest⟩
set_option maxRecDepth 4000 in
set_option maxHeartbeats 1000000 in
theorem plus_11 (a:List Nat) (wa:Words a) (g c:Nat) (h1:a.length≤4000) (b:List Nat) (wb:Words b) (g' c':Nat) (h2:b.length≤4000) (w:World)
  (hc : ∀ j,j<a.length→w.cell? ⟨g,j,none⟩=some (.int .u32 (a.getD j 0:Nat)))
  (hc' : ∀ j,j<b.length→w.cell? ⟨g',j,none⟩=some (.int .u32 (b.getD j 0:Nat))) :
  Calls Tryz.prog 133 #[.slice (some ⟨g,0,none⟩) a.length c,.slice (some ⟨g',0,none⟩) b.length c'] w fun e w'=>Gives w' e (num a+num b)∧Below w.heap.size w w':=by
 obtain ⟨i0,hi,hz0,hz1,hz2⟩:=info_parts info_u32
 go_enter Tryz.func133,Tryz.ntmps133
 go_wp2
 go_loopw [5,6,7] (fun out cv i wr => ∃ (k cc:Nat) (o:List Nat),i = .int .i64 k∧cv = .int .u64 cc∧(k≤a.length∨k≤b.length)∧PlusAt a b o k cc∧wr.ownsRow w.heap.size 115 1 out o.length (o.map W32)∧Below w.heap.size w wr)
  (fun _ _ i _=>a.length+b.length-(intOf i).toNat)
 case atStart=>exact ⟨0,0,[],rfl,rfl,by omega,⟨rfl,Words.nil,by omega,by simp [num]⟩,World.ownsRow_nil _ _ _ _,Below.refl _ _⟩
 case round =>
  obtain ⟨k,cc,o,rfl,rfl,hk,hp,hown,hB⟩:=hrel
  have hcc:cc≤1:=hp.2.2.1
  have hol:o.length=k:=hp.1
  have hst:=plus_step wa wb hp
  obtain ⟨x,hx⟩ : ∃ x,x=(a:List Nat).getD k 0:=⟨_,rfl⟩
  obtain ⟨y,hy⟩ : ∃ y,y=(b:List Nat).getD k 0:=⟨_,rfl⟩
  rw [←hx,←hy] at hst
  have gx:x≤4294967295:=by have:=wa.getD k;rw [←hx,BB_eq] at this;omega
  have gy:y≤4294967295:=by have:=wb.getD k;rw [←hy,BB_eq] at this;omega
  have hcell:k<a.length→wr.cell? ⟨g,k,none⟩=some (.int .u32 (x:Nat)):=fun h=>hx ▸ RowKit.Below.cells hB (hc k h)
  have zx : ¬k<a.length→x=0:=fun h=>by rw [hx,List.getD_eq_getElem?_getD,List.getElem?_eq_none (by omega)];rfl
  have hcell':k<b.length→wr.cell? ⟨g',k,none⟩=some (.int .u32 (y:Nat)):=fun h=>hy ▸ RowKit.Below.cells hB (hc' k h)
  have zy : ¬k<b.length→y=0:=fun h=>by rw [hy,List.getD_eq_getElem?_getD,List.getElem?_eq_none (by omega)];rfl
  have Hhst:=Lib.hid hst
  have Hhp:=Lib.hid hp
  have Hhx:=Lib.hid hx
  have Hhy:=Lib.hid hy
  have Hhc:=Lib.hid hc
  have Hhc':=Lib.hid hc'
  clear hst hp hx hy hc hc' wa wb
  by_cases hka:k<a.length<;>by_cases hkb:k<b.length
  ·have c1:=hcell hka
   have c2:=hcell' hkb
   clear hcell hcell' zx zy
   go_wp2_with (at_builtin;refine wpList_append_own _ rfl _ _ 104 rfl w.heap.size 115 i0 (.int .u32 0) 1 4 Tryz.underlying104 hi hz0 hz1 hz2 rfl (by decide) _ _ _ rfl (hown.alloc _) ⟨wr.heap.size,0,none⟩ 1 1 [.int .u32 (((cc:Int)+(x:Int)+(y:Int))%4294967296)] rfl rfl (by intro j u hj;match j,hj with|0,hj=>(simp at hj;subst hj;simp [Addr.add])) (by intro u hu;simp at hu;subst hu;rfl) (by unfold maxLen;omega) (by omega) (by have:=hB.size;simp;omega) ?_;intro v' w1 hown' hgrow _)
   have R:=append_rel (d:=(cc+x+y)%BB) hB hown hown' hgrow (by unfold W32;rw [BB_eq];exact congrArg _ (by omega))
   clear hown' hgrow hown
   go_wp2
   go_roundw
   case rel=>exact ⟨k+1,_,_,by go_num,by rw [BB_eq];exact congrArg _ (by omega),by omega,Hhst.out,R.1,R.2⟩
   case measure=>simp only [intOf];omega
  ·have c1:=hcell hka
   have ey:y=0:=zy hkb
   subst ey
   clear hcell hcell' zx zy
   go_wp2_with (at_builtin;refine wpList_append_own _ rfl _ _ 104 rfl w.heap.size 115 i0 (.int .u32 0) 1 4 Tryz.underlying104 hi hz0 hz1 hz2 rfl (by decide) _ _ _ rfl (hown.alloc _) ⟨wr.heap.size,0,none⟩ 1 1 [.int .u32 (((cc:Int)+(x:Int))%4294967296)] rfl rfl (by intro j u hj;match j,hj with|0,hj=>(simp at hj;subst hj;simp [Addr.add])) (by intro u hu;simp at hu;subst hu;rfl) (by unfold maxLen;omega) (by omega) (by have:=hB.size;simp;omega) ?_;intro v' w1 hown' hgrow _)
   have R:=append_rel (d:=(cc+x+0)%BB) hB hown hown' hgrow (by unfold W32;rw [BB_eq];exact congrArg _ (by omega))
   clear hown' hgrow hown
   go_wp2
   go_roundw
   case rel=>exact ⟨k+1,_,_,by go_num,by rw [BB_eq];exact congrArg _ (by omega),by omega,Hhst.out,R.1,R.2⟩
   case measure=>simp only [intOf];omega
  ·have ex:x=0:=zx hka
   subst ex
   have c2:=hcell' hkb
   clear hcell hcell' zx zy
   go_wp2_with (at_builtin;refine wpList_append_own _ rfl _ _ 104 rfl w.heap.size 115 i0 (.int .u32 0) 1 4 Tryz.underlying104 hi hz0 hz1 hz2 rfl (by decide) _ _ _ rfl (hown.alloc _) ⟨wr.heap.size,0,none⟩ 1 1 [.int .u32 (((cc:Int)+(y:Int))%4294967296)] rfl rfl (by intro j u hj;match j,hj with|0,hj=>(simp at hj;subst hj;simp [Addr.add])) (by intro u hu;simp at hu;subst hu;rfl) (by unfold maxLen;omega) (by omega) (by have:=hB.size;simp;omega) ?_;intro v' w1 hown' hgrow _)
   have R:=append_rel (d:=(cc+0+y)%BB) hB hown hown' hgrow (by unfold W32;rw [BB_eq];exact congrArg _ (by omega))
   clear hown' hgrow hown
   go_wp2
   go_roundw
   case rel=>exact ⟨k+1,_,_,by go_num,by rw [BB_eq];exact congrArg _ (by omega),by omega,Hhst.out,R.1,R.2⟩
   case measure=>simp only [intOf];omega
  ·have ex:x=0:=zx hka
   subst ex
   have ey:y=0:=zy hkb
   subst ey
   clear hcell hcell' zx zy
   have hd:=plus_done Hhp.out (by omega) (by omega)
   have Hd:=Lib.hid hd
   clear hd
   go_wp2_with (first|(at_builtin;refine wpList_append_own _ rfl _ _ 104 rfl w.heap.size 115 i0 (.int .u32 0) 1 4 Tryz.underlying104 hi hz0 hz1 hz2 rfl (by decide) _ _ _ rfl (hown.alloc _) ⟨wr.heap.size,0,none⟩ 1 1 [.int .u32 ((cc:Int))] rfl rfl (by intro j u hj;match j,hj with|0,hj=>(simp at hj;subst hj;simp [Addr.add])) (by intro u hu;simp at hu;subst hu;rfl) (by unfold maxLen;omega) (by omega) (by have:=hB.size;simp;omega) ?_;intro v' w1 hown' hgrow _)|(go_at_call 131;refine (trim_any _ _ Hd.out.1 _ (own_row (append_rel (d:=cc) hB hown hown' hgrow rfl).1 (by simp))).mono ?_;rintro e w2 ⟨⟨v3,l3,rfl,g1,g2,g3,g4⟩,rfl⟩))
   go_ret
   exact ⟨⟨_,l3,rfl,g1,g2,g3,g4.trans Hd.out.2⟩,(append_rel (d:=cc) hB hown hown' hgrow rfl).2⟩
set_option maxRecDepth 4000 in
set_option maxHeartbeats 1000000 in
theorem plus_10 (a:List Nat) (wa:Words a) (g c:Nat) (h1:a.length≤4000) (w:World)
  (hc : ∀ j,j<a.length→w.cell? ⟨g,j,none⟩=some (.int .u32 (a.getD j 0:Nat))) :
  Calls Tryz.prog 133 #[.slice (some ⟨g,0,none⟩) a.length c,.slice none 0 0] w fun e w'=>Gives w' e (num a+num ([]:List Nat))∧Below w.heap.size w w':=by
 have wb:=Words.nil
 obtain ⟨i0,hi,hz0,hz1,hz2⟩:=info_parts info_u32
 go_enter Tryz.func133,Tryz.ntmps133
 go_wp2
 go_loopw [5,6,7] (fun out cv i wr => ∃ (k cc:Nat) (o:List Nat),i = .int .i64 k∧cv = .int .u64 cc∧(k≤a.length∨k≤0)∧PlusAt a [] o k cc∧wr.ownsRow w.heap.size 115 1 out o.length (o.map W32)∧Below w.heap.size w wr)
  (fun _ _ i _=>a.length+0-(intOf i).toNat)
 case atStart=>exact ⟨0,0,[],rfl,rfl,by omega,⟨rfl,Words.nil,by omega,by simp [num]⟩,World.ownsRow_nil _ _ _ _,Below.refl _ _⟩
 case round =>
  obtain ⟨k,cc,o,rfl,rfl,hk,hp,hown,hB⟩:=hrel
  have hcc:cc≤1:=hp.2.2.1
  have hol:o.length=k:=hp.1
  have hst:=plus_step wa wb hp
  obtain ⟨x,hx⟩ : ∃ x,x=(a:List Nat).getD k 0:=⟨_,rfl⟩
  obtain ⟨y,hy⟩ : ∃ y,y=([]:List Nat).getD k 0:=⟨_,rfl⟩
  rw [←hx,←hy] at hst
  have gx:x≤4294967295:=by have:=wa.getD k;rw [←hx,BB_eq] at this;omega
  have gy:y≤4294967295:=by have:=wb.getD k;rw [←hy,BB_eq] at this;omega
  have hcell:k<a.length→wr.cell? ⟨g,k,none⟩=some (.int .u32 (x:Nat)):=fun h=>hx ▸ RowKit.Below.cells hB (hc k h)
  have zx : ¬k<a.length→x=0:=fun h=>by rw [hx,List.getD_eq_getElem?_getD,List.getElem?_eq_none (by omega)];rfl
  have zy:y=0:=by rw [hy];rfl
  have Hhst:=Lib.hid hst
  have Hhp:=Lib.hid hp
  have Hhx:=Lib.hid hx
  have Hhy:=Lib.hid hy
  have Hhc:=Lib.hid hc
  clear hst hp hx hy hc wa wb
  by_cases hka:k<a.length
  ·have c1:=hcell hka
   have ey:y=0:=zy
   subst ey
   clear hcell zx
   go_wp2_with (at_builtin;refine wpList_append_own _ rfl _ _ 104 rfl w.heap.size 115 i0 (.int .u32 0) 1 4 Tryz.underlying104 hi hz0 hz1 hz2 rfl (by decide) _ _ _ rfl (hown.alloc _) ⟨wr.heap.size,0,none⟩ 1 1 [.int .u32 (((cc:Int)+(x:Int))%4294967296)] rfl rfl (by intro j u hj;match j,hj with|0,hj=>(simp at hj;subst hj;simp [Addr.add])) (by intro u hu;simp at hu;subst hu;rfl) (by unfold maxLen;omega) (by omega) (by have:=hB.size;simp;omega) ?_;intro v' w1 hown' hgrow _)
   have R:=append_rel (d:=(cc+x+0)%BB) hB hown hown' hgrow (by unfold W32;rw [BB_eq];exact congrArg _ (by omega))
   clear hown' hgrow hown
   go_wp2
   go_roundw
   case rel=>exact ⟨k+1,_,_,by go_num,by rw [BB_eq];exact congrArg _ (by omega),by omega,Hhst.out,R.1,R.2⟩
   case measure=>simp only [intOf];omega
  ·have ex:x=0:=zx hka
   subst ex
   have ey:y=0:=zy
   subst ey
   clear hcell zx
   have hd:=plus_done Hhp.out (by omega) (by simp)
   have Hd:=Lib.hid hd
   clear hd
   go_wp2_with (first|(at_builtin;refine wpList_append_own _ rfl _ _ 104 rfl w.heap.size 115 i0 (.int .u32 0) 1 4 Tryz.underlying104 hi hz0 hz1 hz2 rfl (by decide) _ _ _ rfl (hown.alloc _) ⟨wr.heap.size,0,none⟩ 1 1 [.int .u32 ((cc:Int))] rfl rfl (by intro j u hj;match j,hj with|0,hj=>(simp at hj;subst hj;simp [Addr.add])) (by intro u hu;simp at hu;subst hu;rfl) (by unfold maxLen;omega) (by omega) (by have:=hB.size;simp;omega) ?_;intro v' w1 hown' hgrow _)|(go_at_call 131;refine (trim_any _ _ Hd.out.1 _ (own_row (append_rel (d:=cc) hB hown hown' hgrow rfl).1 (by simp))).mono ?_;rintro e w2 ⟨⟨v3,l3,rfl,g1,g2,g3,g4⟩,rfl⟩))
   go_ret
   exact ⟨⟨_,l3,rfl,g1,g2,g3,g4.trans Hd.out.2⟩,(append_rel (d:=cc) hB hown hown' hgrow rfl).2⟩
set_option maxRecDepth 4000 in
set_option maxHeartbeats 1000000 in
theorem plus_01 (b:List Nat) (wb:Words b) (g' c':Nat) (h2:b.length≤4000) (w:World)
  (hc' : ∀ j,j<b.length→w.cell? ⟨g',j,none⟩=some (.int .u32 (b.getD j 0:Nat))) :
  Calls Tryz.prog 133 #[.slice none 0 0,.slice (some ⟨g',0,none⟩) b.length c'] w fun e w'=>Gives w' e (num ([]:List Nat)+num b)∧Below w.heap.size w w':=by
 have wa:=Words.nil
 obtain ⟨i0,hi,hz0,hz1,hz2⟩:=info_parts info_u32
 go_enter Tryz.func133,Tryz.ntmps133
 go_wp2
 go_loopw [5,6,7] (fun out cv i wr => ∃ (k cc:Nat) (o:List Nat),i = .int .i64 k∧cv = .int .u64 cc∧(k≤0∨k≤b.length)∧PlusAt [] b o k cc∧wr.ownsRow w.heap.size 115 1 out o.length (o.map W32)∧Below w.heap.size w wr)
  (fun _ _ i _=>0+b.length-(intOf i).toNat)
 case atStart=>exact ⟨0,0,[],rfl,rfl,by omega,⟨rfl,Words.nil,by omega,by simp [num]⟩,World.ownsRow_nil _ _ _ _,Below.refl _ _⟩
 case round =>
  obtain ⟨k,cc,o,rfl,rfl,hk,hp,hown,hB⟩:=hrel
  have hcc:cc≤1:=hp.2.2.1
  have hol:o.length=k:=hp.1
  have hst:=plus_step wa wb hp
  obtain ⟨x,hx⟩ : ∃ x,x=([]:List Nat).getD k 0:=⟨_,rfl⟩
  obtain ⟨y,hy⟩ : ∃ y,y=(b:List Nat).getD k 0:=⟨_,rfl⟩
  rw [←hx,←hy] at hst
  have gx:x≤4294967295:=by have:=wa.getD k;rw [←hx,BB_eq] at this;omega
  have gy:y≤4294967295:=by have:=wb.getD k;rw [←hy,BB_eq] at this;omega
  have zx:x=0:=by rw [hx];rfl
  have hcell':k<b.length→wr.cell? ⟨g',k,none⟩=some (.int .u32 (y:Nat)):=fun h=>hy ▸ RowKit.Below.cells hB (hc' k h)
  have zy : ¬k<b.length→y=0:=fun h=>by rw [hy,List.getD_eq_getElem?_getD,List.getElem?_eq_none (by omega)];rfl
  have Hhst:=Lib.hid hst
  have Hhp:=Lib.hid hp
  have Hhx:=Lib.hid hx
  have Hhy:=Lib.hid hy
  have Hhc':=Lib.hid hc'
  clear hst hp hx hy hc' wa wb
  by_cases hkb:k<b.length
  ·have ex:x=0:=zx
   subst ex
   have c2:=hcell' hkb
   clear hcell' zy
   go_wp2_with (at_builtin;refine wpList_append_own _ rfl _ _ 104 rfl w.heap.size 115 i0 (.int .u32 0) 1 4 Tryz.underlying104 hi hz0 hz1 hz2 rfl (by decide) _ _ _ rfl (hown.alloc _) ⟨wr.heap.size,0,none⟩ 1 1 [.int .u32 (((cc:Int)+(y:Int))%4294967296)] rfl rfl (by intro j u hj;match j,hj with|0,hj=>(simp at hj;subst hj;simp [Addr.add])) (by intro u hu;simp at hu;subst hu;rfl) (by unfold maxLen;omega) (by omega) (by have:=hB.size;simp;omega) ?_;intro v' w1 hown' hgrow _)
   have R:=append_rel (d:=(cc+0+y)%BB) hB hown hown' hgrow (by unfold W32;rw [BB_eq];exact congrArg _ (by omega))
   clear hown' hgrow hown
   go_wp2
   go_roundw
   case rel=>exact ⟨k+1,_,_,by go_num,by rw [BB_eq];exact congrArg _ (by omega),by omega,Hhst.out,R.1,R.2⟩
   case measure=>simp only [intOf];omega
  ·have ex:x=0:=zx
   subst ex
   have ey:y=0:=zy hkb
   subst ey
   clear hcell' zy
   have hd:=plus_done Hhp.out (by simp) (by omega)
   have Hd:=Lib.hid hd
   clear hd
   go_wp2_with (first|(at_builtin;refine wpList_append_own _ rfl _ _ 104 rfl w.heap.size 115 i0 (.int .u32 0) 1 4 Tryz.underlying104 hi hz0 hz1 hz2 rfl (by decide) _ _ _ rfl (hown.alloc _) ⟨wr.heap.size,0,none⟩ 1 1 [.int .u32 ((cc:Int))] rfl rfl (by intro j u hj;match j,hj with|0,hj=>(simp at hj;subst hj;simp [Addr.add])) (by intro u hu;simp at hu;subst hu;rfl) (by unfold maxLen;omega) (by omega) (by have:=hB.size;simp;omega) ?_;intro v' w1 hown' hgrow _)|(go_at_call 131;refine (trim_any _ _ Hd.out.1 _ (own_row (append_rel (d:=cc) hB hown hown' hgrow rfl).1 (by simp))).mono ?_;rintro e w2 ⟨⟨v3,l3,rfl,g1,g2,g3,g4⟩,rfl⟩))
   go_ret
   exact ⟨⟨_,l3,rfl,g1,g2,g3,g4.trans Hd.out.2⟩,(append_rel (d:=cc) hB hown hown' hgrow rfl).2⟩
set_option maxRecDepth 4000 in
set_option maxHeartbeats 1000000 in
theorem plus_00 (w:World) :
  Calls Tryz.prog 133 #[.slice none 0 0,.slice none 0 0] w fun e w'=>Gives w' e (num ([]:List Nat)+num ([]:List Nat))∧Below w.heap.size w w':=by
 have wa:=Words.nil
 have wb:=Words.nil
 obtain ⟨i0,hi,hz0,hz1,hz2⟩:=info_parts info_u32
 go_enter Tryz.func133,Tryz.ntmps133
 go_wp2
 go_loopw [5,6,7] (fun out cv i wr => ∃ (k cc:Nat) (o:List Nat),i = .int .i64 k∧cv = .int .u64 cc∧(k≤0∨k≤0)∧PlusAt [] [] o k cc∧wr.ownsRow w.heap.size 115 1 out o.length (o.map W32)∧Below w.heap.size w wr)
  (fun _ _ i _=>0+0-(intOf i).toNat)
 case atStart=>exact ⟨0,0,[],rfl,rfl,by omega,⟨rfl,Words.nil,by omega,by simp [num]⟩,World.ownsRow_nil _ _ _ _,Below.refl _ _⟩
 case round =>
  obtain ⟨k,cc,o,rfl,rfl,hk,hp,hown,hB⟩:=hrel
  have hcc:cc≤1:=hp.2.2.1
  have hol:o.length=k:=hp.1
  have hst:=plus_step wa wb hp
  obtain ⟨x,hx⟩ : ∃ x,x=([]:List Nat).getD k 0:=⟨_,rfl⟩
  obtain ⟨y,hy⟩ : ∃ y,y=([]:List Nat).getD k 0:=⟨_,rfl⟩
  rw [←hx] at hst
  have gx:x≤4294967295:=by have:=wa.getD k;rw [←hx,BB_eq] at this;omega
  have gy:y≤4294967295:=by have:=wb.getD k;rw [←hy,BB_eq] at this;omega
  have zx:x=0:=by rw [hx];rfl
  have zy:y=0:=by rw [hy];rfl
  have Hhst:=Lib.hid hst
  have Hhp:=Lib.hid hp
  have Hhx:=Lib.hid hx
  have Hhy:=Lib.hid hy
  clear hst hp hx hy wa wb
  have ex:x=0:=zx
  subst ex
  have ey:y=0:=zy
  subst ey
  have hd:=plus_done Hhp.out (by simp) (by simp)
  have Hd:=Lib.hid hd
  clear hd
  go_wp2_with (first|(at_builtin;refine wpList_append_own _ rfl _ _ 104 rfl w.heap.size 115 i0 (.int .u32 0) 1 4 Tryz.underlying104 hi hz0 hz1 hz2 rfl (by decide) _ _ _ rfl (hown.alloc _) ⟨wr.heap.size,0,none⟩ 1 1 [.int .u32 ((cc:Int))] rfl rfl (by intro j u hj;match j,hj with|0,hj=>(simp at hj;subst hj;simp [Addr.add])) (by intro u hu;simp at hu;subst hu;rfl) (by unfold maxLen;omega) (by omega) (by have:=hB.size;simp;omega) ?_;intro v' w1 hown' hgrow _)|(go_at_call 131;refine (trim_any _ _ Hd.out.1 _ (own_row (append_rel (d:=cc) hB hown hown' hgrow rfl).1 (by simp))).mono ?_;rintro e w2 ⟨⟨v3,l3,rfl,g1,g2,g3,g4⟩,rfl⟩))
  go_ret
  exact ⟨⟨_,l3,rfl,g1,g2,g3,g4.trans Hd.out.2⟩,(append_rel (d:=cc) hB hown hown' hgrow rfl).2⟩
theorem plus_any (v u:Value) (a b:List Nat) (wa:Words a) (wb:Words b) (h1:a.length≤4000) (h2:b.length≤4000) (w:World) (hr:Row w v a) (hs:Row w u b) :
  Calls Tryz.prog 133 #[v,u] w fun e w'=>Gives w' e (num a+num b)∧Below w.heap.size w w':=by
 rcases hr.cases with ⟨rfl,rfl⟩|⟨g,c,rfl,_,_,_,hc⟩<;>rcases hs.cases with ⟨rfl,rfl⟩|⟨g',c',rfl,_,_,_,hc'⟩
 ·exact plus_00 w
 ·exact plus_01 b wb g' c' h2 w hc'
 ·exact plus_10 a wa g c h1 w hc
 ·exact plus_11 a wa g c h1 b wb g' c' h2 w hc hc'
end Go.Proofs.YteephgpefhodnaaGreat
namespace Go.Proofs.YteephgpefhodnaaGreat
open Go.RowKit Go.Sort Go.Fl
set_option linter.unusedSimpArgs false
set_option linter.unusedVariables false
theorem w32_toNat {z:Int} (h:0≤z):Value.int .u32 z=W32 z.toNat:=by unfold W32;rw [Int.toNat_of_nonneg h]
theorem minus_digit (z:Int):Value.int .u32 (z%4294967296)=W32 (z%(BB:Int)).toNat:=by
 rw [←w32_toNat (Int.emod_nonneg _ (by rw [BB_eq];omega)),BB_eq];rfl
set_option maxRecDepth 4000 in
set_option maxHeartbeats 1000000 in
theorem minus_11 (a:List Nat) (wa:Words a) (g c:Nat) (h1:a.length≤4000) (b:List Nat) (wb:Words b) (g' c':Nat) (h2:b.length≤a.length) (hle:num b≤num a) (w:World)
  (hc : ∀ j,j<a.length→w.cell? ⟨g,j,none⟩=some (.int .u32 (a.getD j 0:Nat)))
  (hc' : ∀ j,j<b.length→w.cell? ⟨g',j,none⟩=some (.int .u32 (b.getD j 0:Nat))) :
  Calls Tryz.prog 135 #[.slice (some ⟨g,0,none⟩) a.length c,.slice (some ⟨g',0,none⟩) b.length c'] w fun e w'=>Gives w' e (num a-num b)∧Below w.heap.size w w':=by
 obtain ⟨i0,hi,hz0,hz1,hz2⟩:=info_parts info_u32
 go_enter Tryz.func135,Tryz.ntmps135
 go_wp2
 go_loopw [5,6,7] (fun out cv i wr => ∃ (k:Nat) (cc:Int) (o:List Nat),i = .int .i64 k∧cv = .int .i64 cc∧k≤a.length∧MinusAt a b o k cc∧wr.ownsRow w.heap.size 115 1 out o.length (o.map W32)∧Below w.heap.size w wr)
  (fun _ _ i _=>a.length-(intOf i).toNat)
 case atStart=>exact ⟨0,0,[],rfl,rfl,by omega,⟨rfl,Words.nil,by omega,by omega,by simp [num]⟩,World.ownsRow_nil _ _ _ _,Below.refl _ _⟩
 case round =>
  obtain ⟨k,cc,o,rfl,rfl,hk,hp,hown,hB⟩:=hrel
  have hcc : -1≤cc:=hp.2.2.1
  have hcc2:cc≤0:=hp.2.2.2.1
  have hol:o.length=k:=hp.1
  have hst:=minus_step wa wb hp
  obtain ⟨x,hx⟩ : ∃ x,x=(a:List Nat).getD k 0:=⟨_,rfl⟩
  obtain ⟨y,hy⟩ : ∃ y,y=(b:List Nat).getD k 0:=⟨_,rfl⟩
  rw [←hx,←hy] at hst
  have gx:x≤4294967295:=by have:=wa.getD k;rw [←hx,BB_eq] at this;omega
  have gy:y≤4294967295:=by have:=wb.getD k;rw [←hy,BB_eq] at this;omega
  have hcell:k<a.length→wr.cell? ⟨g,k,none⟩=some (.int .u32 (x:Nat)):=fun h=>hx ▸ RowKit.Below.cells hB (hc k h)
  have hcell':k<b.length→wr.cell? ⟨g',k,none⟩=some (.int .u32 (y:Nat)):=fun h=>hy ▸ RowKit.Below.cells hB (hc' k h)
  have zy : ¬k<b.length→y=0:=fun h=>by rw [hy,List.getD_eq_getElem?_getD,List.getElem?_eq_none (by omega)];rfl
  have Hhst:=Lib.hid hst
  have Hhp:=Lib.hid hp
  have Hhx:=Lib.hid hx
  have Hhy:=Lib.hid hy
  have Hhc:=Lib.hid hc
  have Hhc':=Lib.hid hc'
  have Hhle:=Lib.hid hle
  clear hst hp hx hy hc hc' hle wa wb
  by_cases hka:k<a.length
  ·by_cases hkb:k<b.length
   ·have c1:=hcell hka
    have c2:=hcell' hkb
    clear hcell hcell' zy
    go_wp2_with (at_builtin;refine wpList_append_own _ rfl _ _ 104 rfl w.heap.size 115 i0 (.int .u32 0) 1 4 Tryz.underlying104 hi hz0 hz1 hz2 rfl (by decide) _ _ _ rfl (hown.alloc _) ⟨wr.heap.size,0,none⟩ 1 1 [.int .u32 ((cc+(x:Int)-(y:Int))%4294967296)] rfl rfl (by intro j u hj;match j,hj with|0,hj=>(simp at hj;subst hj;simp [Addr.add])) (by intro u hu;simp at hu;subst hu;rfl) (by unfold maxLen;omega) (by omega) (by have:=hB.size;simp;omega) ?_;intro v' w1 hown' hgrow _)
    have R:=append_rel (d:=((cc+(x:Int)-(y:Int))%(BB:Int)).toNat) hB hown hown' hgrow (by rw [←minus_digit];first|done|exact congrArg _ (by omega))
    clear hown' hgrow hown
    go_wp2
    go_roundw
    case rel=>exact ⟨k+1,_,_,by go_num,by rw [BB_eq];exact congrArg _ (by omega),by omega,Hhst.out,R.1,R.2⟩
    case measure=>simp only [intOf];omega
   ·have c1:=hcell hka
    have ey:y=0:=zy hkb
    subst ey
    clear hcell hcell' zy
    go_wp2_with (at_builtin;refine wpList_append_own _ rfl _ _ 104 rfl w.heap.size 115 i0 (.int .u32 0) 1 4 Tryz.underlying104 hi hz0 hz1 hz2 rfl (by decide) _ _ _ rfl (hown.alloc _) ⟨wr.heap.size,0,none⟩ 1 1 [.int .u32 ((cc+(x:Int))%4294967296)] rfl rfl (by intro j u hj;match j,hj with|0,hj=>(simp at hj;subst hj;simp [Addr.add])) (by intro u hu;simp at hu;subst hu;rfl) (by unfold maxLen;omega) (by omega) (by have:=hB.size;simp;omega) ?_;intro v' w1 hown' hgrow _)
    have R:=append_rel (d:=((cc+(x:Int)-((0:Nat):Int))%(BB:Int)).toNat) hB hown hown' hgrow (by rw [←minus_digit];first|done|exact congrArg _ (by omega))
    clear hown' hgrow hown
    go_wp2
    go_roundw
    case rel=>exact ⟨k+1,_,_,by go_num,by rw [BB_eq];exact congrArg _ (by omega),by omega,Hhst.out,R.1,R.2⟩
    case measure=>simp only [intOf];omega
  ·have hd:=minus_done Hhp.out (by omega) (by omega) Hhle.out
   have Hd:=Lib.hid hd
   clear hd
   go_wp2_with (go_at_call 131;refine (trim_any _ _ Hhp.out.2.1 _ (own_row hown rfl)).mono ?_;rintro e w2 ⟨⟨v3,l3,rfl,g1,g2,g3,g4⟩,rfl⟩)
   go_ret
   exact ⟨⟨_,l3,rfl,g1,g2,g3,g4.trans Hd.out⟩,hB⟩
set_option maxRecDepth 4000 in
set_option maxHeartbeats 1000000 in
theorem minus_10 (a:List Nat) (wa:Words a) (g c:Nat) (h1:a.length≤4000) (w:World)
  (hc : ∀ j,j<a.length→w.cell? ⟨g,j,none⟩=some (.int .u32 (a.getD j 0:Nat))) :
  Calls Tryz.prog 135 #[.slice (some ⟨g,0,none⟩) a.length c,.slice none 0 0] w fun e w'=>Gives w' e (num a-num ([]:List Nat))∧Below w.heap.size w w':=by
 have wb:=Words.nil
 obtain ⟨i0,hi,hz0,hz1,hz2⟩:=info_parts info_u32
 go_enter Tryz.func135,Tryz.ntmps135
 go_wp2
 go_loopw [5,6,7] (fun out cv i wr => ∃ (k:Nat) (cc:Int) (o:List Nat),i = .int .i64 k∧cv = .int .i64 cc∧k≤a.length∧MinusAt a [] o k cc∧wr.ownsRow w.heap.size 115 1 out o.length (o.map W32)∧Below w.heap.size w wr)
  (fun _ _ i _=>a.length-(intOf i).toNat)
 case atStart=>exact ⟨0,0,[],rfl,rfl,by omega,⟨rfl,Words.nil,by omega,by omega,by simp [num]⟩,World.ownsRow_nil _ _ _ _,Below.refl _ _⟩
 case round =>
  obtain ⟨k,cc,o,rfl,rfl,hk,hp,hown,hB⟩:=hrel
  have hcc : -1≤cc:=hp.2.2.1
  have hcc2:cc≤0:=hp.2.2.2.1
  have hol:o.length=k:=hp.1
  have hst:=minus_step wa wb hp
  obtain ⟨x,hx⟩ : ∃ x,x=(a:List Nat).getD k 0:=⟨_,rfl⟩
  obtain ⟨y,hy⟩ : ∃ y,y=([]:List Nat).getD k 0:=⟨_,rfl⟩
  rw [←hx,←hy] at hst
  have gx:x≤4294967295:=by have:=wa.getD k;rw [←hx,BB_eq] at this;omega
  have gy:y≤4294967295:=by have:=wb.getD k;rw [←hy,BB_eq] at this;omega
  have hcell:k<a.length→wr.cell? ⟨g,k,none⟩=some (.int .u32 (x:Nat)):=fun h=>hx ▸ RowKit.Below.cells hB (hc k h)
  have zy:y=0:=by rw [hy];rfl
  have Hhst:=Lib.hid hst
  have Hhp:=Lib.hid hp
  have Hhx:=Lib.hid hx
  have Hhy:=Lib.hid hy
  have Hhc:=Lib.hid hc
  clear hst hp hx hy hc wa wb
  by_cases hka:k<a.length
  ·have c1:=hcell hka
   have ey:y=0:=zy
   subst ey
   clear hcell
   go_wp2_with (at_builtin;refine wpList_append_own _ rfl _ _ 104 rfl w.heap.size 115 i0 (.int .u32 0) 1 4 Tryz.underlying104 hi hz0 hz1 hz2 rfl (by decide) _ _ _ rfl (hown.alloc _) ⟨wr.heap.size,0,none⟩ 1 1 [.int .u32 ((cc+(x:Int))%4294967296)] rfl rfl (by intro j u hj;match j,hj with|0,hj=>(simp at hj;subst hj;simp [Addr.add])) (by intro u hu;simp at hu;subst hu;rfl) (by unfold maxLen;omega) (by omega) (by have:=hB.size;simp;omega) ?_;intro v' w1 hown' hgrow _)
   have R:=append_rel (d:=((cc+(x:Int)-((0:Nat):Int))%(BB:Int)).toNat) hB hown hown' hgrow (by rw [←minus_digit];first|done|exact congrArg _ (by omega))
   clear hown' hgrow hown
   go_wp2
   go_roundw
   case rel=>exact ⟨k+1,_,_,by go_num,by rw [BB_eq];exact congrArg _ (by omega),by omega,Hhst.out,R.1,R.2⟩
   case measure=>simp only [intOf];omega
  ·have hd:=minus_done Hhp.out (by omega) (by simp) (Nat.zero_le _)
   have Hd:=Lib.hid hd
   clear hd
   go_wp2_with (go_at_call 131;refine (trim_any _ _ Hhp.out.2.1 _ (own_row hown rfl)).mono ?_;rintro e w2 ⟨⟨v3,l3,rfl,g1,g2,g3,g4⟩,rfl⟩)
   go_ret
   exact ⟨⟨_,l3,rfl,g1,g2,g3,g4.trans Hd.out⟩,hB⟩
set_option maxRecDepth 4000 in
set_option maxHeartbeats 1000000 in
theorem minus_00 (w:World) :
  Calls Tryz.prog 135 #[.slice none 0 0,.slice none 0 0] w fun e w'=>Gives w' e (num ([]:List Nat)-num ([]:List Nat))∧Below w.heap.size w w':=by
 have wa:=Words.nil
 have wb:=Words.nil
 obtain ⟨i0,hi,hz0,hz1,hz2⟩:=info_parts info_u32
 go_enter Tryz.func135,Tryz.ntmps135
 go_wp2
 go_loopw [5,6,7] (fun out cv i wr => ∃ (k:Nat) (cc:Int) (o:List Nat),i = .int .i64 k∧cv = .int .i64 cc∧k≤0∧MinusAt [] [] o k cc∧wr.ownsRow w.heap.size 115 1 out o.length (o.map W32)∧Below w.heap.size w wr)
  (fun _ _ i _=>0-(intOf i).toNat)
 case atStart=>exact ⟨0,0,[],rfl,rfl,by omega,⟨rfl,Words.nil,by omega,by omega,by simp [num]⟩,World.ownsRow_nil _ _ _ _,Below.refl _ _⟩
 case round =>
  obtain ⟨k,cc,o,rfl,rfl,hk,hp,hown,hB⟩:=hrel
  have hcc : -1≤cc:=hp.2.2.1
  have hcc2:cc≤0:=hp.2.2.2.1
  have hol:o.length=k:=hp.1
  have hst:=minus_step wa wb hp
  obtain ⟨x,hx⟩ : ∃ x,x=([]:List Nat).getD k 0:=⟨_,rfl⟩
  obtain ⟨y,hy⟩ : ∃ y,y=([]:List Nat).getD k 0:=⟨_,rfl⟩
  rw [←hx] at hst
  have gx:x≤4294967295:=by have:=wa.getD k;rw [←hx,BB_eq] at this;omega
  have gy:y≤4294967295:=by have:=wb.getD k;rw [←hy,BB_eq] at this;omega
  have zy:y=0:=by rw [hy];rfl
  have Hhst:=Lib.hid hst
  have Hhp:=Lib.hid hp
  have Hhx:=Lib.hid hx
  have Hhy:=Lib.hid hy
  clear hst hp hx hy wa wb
  have hd:=minus_done Hhp.out (by simp;omega) (by simp) (Nat.zero_le _)
  have Hd:=Lib.hid hd
  clear hd
  go_wp2_with (go_at_call 131;refine (trim_any _ _ Hhp.out.2.1 _ (own_row hown rfl)).mono ?_;rintro e w2 ⟨⟨v3,l3,rfl,g1,g2,g3,g4⟩,rfl⟩)
  go_ret
  exact ⟨⟨_,l3,rfl,g1,g2,g3,g4.trans Hd.out⟩,hB⟩
set_option maxRecDepth 4000 in
set_option maxHeartbeats 1000000 in
theorem minus_0x (g' c':Nat) (w:World) :
  Calls Tryz.prog 135 #[.slice none 0 0,.slice (some ⟨g',0,none⟩) 0 c'] w fun e w'=>Gives w' e (num ([]:List Nat)-num ([]:List Nat))∧Below w.heap.size w w':=by
 have wa:=Words.nil
 have wb:=Words.nil
 obtain ⟨i0,hi,hz0,hz1,hz2⟩:=info_parts info_u32
 go_enter Tryz.func135,Tryz.ntmps135
 go_wp2
 go_loopw [5,6,7] (fun out cv i wr => ∃ (k:Nat) (cc:Int) (o:List Nat),i = .int .i64 k∧cv = .int .i64 cc∧k≤0∧MinusAt [] [] o k cc∧wr.ownsRow w.heap.size 115 1 out o.length (o.map W32)∧Below w.heap.size w wr)
  (fun _ _ i _=>0-(intOf i).toNat)
 case atStart=>exact ⟨0,0,[],rfl,rfl,by omega,⟨rfl,Words.nil,by omega,by omega,by simp [num]⟩,World.ownsRow_nil _ _ _ _,Below.refl _ _⟩
 case round =>
  obtain ⟨k,cc,o,rfl,rfl,hk,hp,hown,hB⟩:=hrel
  have hcc : -1≤cc:=hp.2.2.1
  have hcc2:cc≤0:=hp.2.2.2.1
  have hol:o.length=k:=hp.1
  have hst:=minus_step wa wb hp
  obtain ⟨x,hx⟩ : ∃ x,x=([]:List Nat).getD k 0:=⟨_,rfl⟩
  obtain ⟨y,hy⟩ : ∃ y,y=([]:List Nat).getD k 0:=⟨_,rfl⟩
  rw [←hx] at hst
  have gx:x≤4294967295:=by have:=wa.getD k;rw [←hx,BB_eq] at this;omega
  have gy:y≤4294967295:=by have:=wb.getD k;rw [←hy,BB_eq] at this;omega
  have zy:y=0:=by rw [hy];rfl
  have Hhst:=Lib.hid hst
  have Hhp:=Lib.hid hp
  have Hhx:=Lib.hid hx
  have Hhy:=Lib.hid hy
  clear hst hp hx hy wa wb
  have hd:=minus_done Hhp.out (by simp;omega) (by simp) (Nat.zero_le _)
  have Hd:=Lib.hid hd
  clear hd
  go_wp2_with (go_at_call 131;refine (trim_any _ _ Hhp.out.2.1 _ (own_row hown rfl)).mono ?_;rintro e w2 ⟨⟨v3,l3,rfl,g1,g2,g3,g4⟩,rfl⟩)
  go_ret
  exact ⟨⟨_,l3,rfl,g1,g2,g3,g4.trans Hd.out⟩,hB⟩
theorem minus_any (v u:Value) (a b:List Nat) (wa:Words a) (wb:Words b) (h1:a.length≤4000) (h2:b.length≤a.length) (hle:num b≤num a) (w:World) (hr:Row w v a) (hs:Row w u b) :
  Calls Tryz.prog 135 #[v,u] w fun e w'=>Gives w' e (num a-num b)∧Below w.heap.size w w':=by
 rcases hr.cases with ⟨rfl,rfl⟩|⟨g,c,rfl,_,_,_,hc⟩<;>rcases hs.cases with ⟨rfl,rfl⟩|⟨g',c',rfl,_,_,_,hc'⟩
 ·exact minus_00 w
 ·have eb:b=[]:=List.length_eq_zero_iff.1 (by simpa using h2)
  subst eb
  exact minus_0x g' c' w
 ·exact minus_10 a wa g c h1 w hc
 ·exact minus_11 a wa g c h1 b wb g' c' h2 hle w hc hc'
end Go.Proofs.YteephgpefhodnaaGreat
namespace Go.Proofs.YteephgpefhodnaaGreat
open Go.RowKit Go.Sort Go.Fl
set_option linter.unusedSimpArgs false
set_option linter.unusedVariables false
theorem made_zeros (z:Nat):(madeCells (Value.int .u32 0).cells (z*1)).toList=(List.replicate z 0).map W32:=by
 rw [Nat.mul_one]
 apply List.ext_getElem
 ·simp [size_madeCells]
 ·intro i h1 h2
  simp [madeCells,Value.cells,Nat.mod_one,W32]
theorem grown_none {B:Nat} {w w1:World} (hg:w.grownBy w1 none) (hB:B≤w.heap.size):Below B w w1 :=
 ⟨hg.os,hg.tape,hg.output,hg.size,fun k hk=>hg.block k (by omega) (by simp)⟩
theorem or_shift (x cc s:Nat) (hx:x≤4294967295) (hs:s≤31) (hc:cc<2^s):bits BinOp.or IntKind.u64 (cc:Int) (IntKind.u64.wrap ((x:Int)*2^s))=((cc+x*2^s:Nat):Int)∧cc+x*2^s≤9223372036854775807:=by
 have h31:2^s≤2^31:=Nat.pow_le_pow_right (by omega) hs
 have hm:x*2^s≤4294967295*2^31:=Nat.mul_le_mul hx h31
 have e:((x:Int)*2^s)=((x*2^s:Nat):Int):=by rw [Int.natCast_mul,Int.natCast_pow];rfl
 have hw:IntKind.u64.wrap ((x*2^s:Nat):Int)=((x*2^s:Nat):Int):=by rw [IntKind.wrap_u64];omega
 rw [e,hw,u64_or_nat cc (x*2^s) (by omega) (by omega)]
 have o:=Nat.two_pow_add_eq_or_of_lt hc x
 rw [Nat.or_comm,Nat.mul_comm x,←o]
 rw [Nat.mul_comm x] at hm
 exact ⟨congrArg _ (by omega),by omega⟩
set_option maxRecDepth 4000 in
set_option maxHeartbeats 1000000 in
theorem shift_1 (a:List Nat) (wa:Words a) (g c:Nat) (h0:0<a.length) (h1:a.length≤1000) (n z s:Nat) (hz:(n:Int).tdiv 32=(z:Int)) (hs:(n:Int).tmod 32=(s:Int)) (hs2:s≤31) (hn:n≤60000) (hzb:z≤2000) (w:World)
  (hc : ∀ j,j<a.length→w.cell? ⟨g,j,none⟩=some (.int .u32 (a.getD j 0:Nat))) :
  Calls Tryz.prog 132 #[.slice (some ⟨g,0,none⟩) a.length c,.int .i64 n] w fun e w'=>Gives w' e (2^(32*z+s)*num a)∧Below w.heap.size w w':=by
 obtain ⟨i0,hi,hz0,hz1,hz2⟩:=info_parts info_u32
 obtain ⟨w0,hmk,hown0,hg0⟩:=run_make_full (P := Tryz.prog) w w.heap.size 104 115 i0 (.int .u32 0) 1 Tryz.underlying104 hi hz0 hz1 .i64 .i64 z (by rw [hz2];omega) (by unfold maxLen;omega) (Nat.le_refl _)
 have b0:((a.length:Int)==0)=false:=by rw [beq_eq_false_iff_ne];omega
 go_enter Tryz.func132,Tryz.ntmps132
 go_wp2
 have hB0:=grown_none (B:=w.heap.size) hg0 (Nat.le_refl _)
 rw [made_zeros] at hown0
 clear hmk hg0
 go_loopw [5,7,8] (fun out cv i wr => ∃ (k cc:Nat) (o:List Nat),i = .int .i64 k∧cv = .int .u64 cc∧k≤a.length∧ShiftAt a o z s k cc∧wr.ownsRow w.heap.size 115 1 out o.length (o.map W32)∧Below w.heap.size w wr)
  (fun _ _ i _=>a.length-(intOf i).toNat)
 case atStart=>exact ⟨0,0,List.replicate z 0,rfl,rfl,by omega,⟨[],by simp,rfl,Words.nil,Nat.two_pow_pos _,by simp [num]⟩,by rw [List.length_replicate];exact hown0,hB0⟩
 case round =>
  obtain ⟨k,cc,o,rfl,rfl,hk,hp,hown,hB⟩:=hrel
  have hst:=shift_step wa hp
  obtain ⟨oo,ho1,ho2,ho3,hcc,ho4⟩:=id hp
  have hol:o.length=z+k:=by rw [ho1,List.length_append,List.length_replicate,ho2]
  clear ho1 ho2 ho3 ho4
  obtain ⟨x,hx⟩ : ∃ x,x=a.getD k 0:=⟨_,rfl⟩
  rw [←hx] at hst
  have gx:x≤4294967295:=by have:=wa.getD k;rw [←hx,BB_eq] at this;omega
  have hcell:k<a.length→wr.cell? ⟨g,k,none⟩=some (.int .u32 (x:Nat)):=fun h=>hx ▸ RowKit.Below.cells hB (hc k h)
  have Hst:=Lib.hid hst
  have Hp:=Lib.hid hp
  have Hc:=Lib.hid hc
  have Hx:=Lib.hid hx
  have Hcc:=Lib.hid hcc
  clear hst hp hc hx hcc wa
  obtain ⟨m,hm⟩ : ∃ m,m=cc+x*2^s:=⟨_,rfl⟩
  have ho:=or_shift x cc s gx hs2 Hcc.out
  rw [←hm] at ho
  obtain ⟨hor,hmb⟩:=ho
  have hst:=Hst.out
  rw [←hm] at hst
  clear Hst
  have Hst:=Lib.hid hst
  have Hm:=Lib.hid hm
  clear hst hm
  by_cases hka:k<a.length
  ·have c1:=hcell hka
   clear hcell
   go_wp2_with (at_builtin;refine wpList_append_own _ rfl _ _ 104 rfl w.heap.size 115 i0 (.int .u32 0) 1 4 Tryz.underlying104 hi hz0 hz1 hz2 rfl (by decide) _ _ _ rfl (hown.alloc _) ⟨wr.heap.size,0,none⟩ 1 1 [.int .u32 ((m:Int)%4294967296)] rfl rfl (by intro j u hj;match j,hj with|0,hj=>(simp at hj;subst hj;simp [Addr.add])) (by intro u hu;simp at hu;subst hu;rfl) (by unfold maxLen;omega) (by omega) (by have:=hB.size;simp;omega) ?_;intro v' w1 hown' hgrow _)
   have R:=append_rel (d:=m%BB) hB hown hown' hgrow (by unfold W32;rw [BB_eq];exact congrArg _ (by omega))
   clear hown' hgrow hown
   go_wp2
   go_roundw
   case rel=>exact ⟨k+1,m / BB,_,by go_num,by rw [BB_eq];exact congrArg _ (by omega),by omega,Hst.out,R.1,R.2⟩
   case measure=>simp only [intOf];omega
  ·have hd:=shift_done Hp.out (by omega) (by omega)
   have Hd:=Lib.hid hd
   clear hd hcell
   have hcb:cc≤4294967295:=by
    have:2^s≤2^31:=Nat.pow_le_pow_right (by omega) hs2
    have:=Hcc.out
    omega
   go_wp2_with (first|(at_builtin;refine wpList_append_own _ rfl _ _ 104 rfl w.heap.size 115 i0 (.int .u32 0) 1 4 Tryz.underlying104 hi hz0 hz1 hz2 rfl (by decide) _ _ _ rfl (hown.alloc _) ⟨wr.heap.size,0,none⟩ 1 1 [.int .u32 ((cc:Int))] rfl rfl (by intro j u hj;match j,hj with|0,hj=>(simp at hj;subst hj;simp [Addr.add])) (by intro u hu;simp at hu;subst hu;rfl) (by unfold maxLen;omega) (by omega) (by have:=hB.size;simp;omega) ?_;intro v' w1 hown' hgrow _)|(go_at_call 131;refine (trim_any _ _ Hd.out.1 _ (own_row (append_rel (d:=cc) hB hown hown' hgrow rfl).1 (by simp))).mono ?_;rintro e w2 ⟨⟨v3,l3,rfl,g1,g2,g3,g4⟩,rfl⟩))
   go_ret
   exact ⟨⟨_,l3,rfl,g1,g2,g3,g4.trans Hd.out.2⟩,(append_rel (d:=cc) hB hown hown' hgrow rfl).2⟩
theorem shift_0 (p:Option Addr) (c n:Nat) (w:World) (hr:Row w (.slice p 0 c) []) :
  Calls Tryz.prog 132 #[.slice p 0 c,.int .i64 n] w fun e w'=>Gives w' e 0∧Below w.heap.size w w':=by
 go_enter Tryz.func132,Tryz.ntmps132
 go_wp2
 go_ret
 exact ⟨⟨_,[],rfl,⟨rfl,.inl ⟨rfl,rfl⟩⟩,Words.nil,.inl rfl,rfl⟩,Below.refl _ _⟩
theorem shift_any (v:Value) (a:List Nat) (n:Nat) (wa:Words a) (h1:a.length≤1000) (hn:n≤60000) (w:World) (hr:Row w v a) :
  Calls Tryz.prog 132 #[v,.int .i64 n] w fun e w'=>Gives w' e (2^n*num a)∧Below w.heap.size w w':=by
 by_cases h0:a.length=0
 ·have e:=List.length_eq_zero_iff.1 h0
  subst e
  obtain ⟨p,c,rfl,_⟩:=hr.len
  have:=shift_0 p c n w hr
  rw [show 2^n*num []=0 from Nat.mul_zero _]
  exact this
 ·rcases hr.cases with ⟨_,e⟩|⟨g,c,rfl,_,_,_,hc⟩
  ·rw [e] at h0;exact absurd rfl h0
  have:=shift_1 a wa g c (by omega) h1 n (n / 32) (n%32) (by rw [Int.tdiv_eq_ediv_of_nonneg (by omega)];omega) (by rw [Int.tmod_eq_emod_of_nonneg (by omega)];omega) (by omega) hn (by omega) w hc
  rw [show 32*(n / 32)+n%32=n by omega] at this
  exact this
end Go.Proofs.YteephgpefhodnaaGreat
