import Derived.ProofKit
import Derived.Laws.Bits64b
import Derived.Lib.BitFns
namespace Go.Proofs.YthdkkpocihkgbaaGreatDoor
theorem bY{α:Type}(l:List α)(d:α){i:Nat}(h:i<l.length):l.getD i d=l[i]:=by simp[List.getD,List.getElem?_eq_getElem h]
theorem gS{α:Type}(l:List α)(d:α){i:Nat}(h:l.length≤i):l.getD i d=d:=by simp[List.getD,List.getElem?_eq_none h]
def aa(B:Nat):List Nat→Nat
 | []=>0
 | x::l=>x+B*aa B l
def Dg(B:Nat)(l:List Nat):Prop:=∀ x∈l,x<B
def iJ:List Nat→List Nat
 | []=>[]
 | x::l=>match iJ l with
   | []=>if x=0 then []else [x]
   | y::m=>x::y::m
def Nrm(l:List Nat):Prop:=l.getLast?≠some 0
section
variable {B:Nat}{l m:List Nat}
@[simp] theorem dval_nil:aa B []=0:=rfl
theorem dx(x:Nat):aa B (x::l)=x+B*aa B l:=rfl
theorem lN(l m:List Nat):aa B (l++m)=aa B l+B^l.length*aa B m:=by
 induction l with
 | nil=>simp
 | cons x l ih=>
   simp only[List.cons_append,dx,ih,List.length_cons,Nat.pow_succ,Nat.mul_add];rw[Nat.mul_comm (B^l.length) B,Nat.mul_assoc];omega
theorem b9(l:List Nat)(x:Nat):aa B (l++[x])=aa B l+B^l.length*x:=by
 rw[lN];simp[dx]
theorem qx(n:Nat):aa B (List.replicate n 0)=0:=by
 induction n with
 | zero=>rfl
 | succ n ih=>simp[List.replicate_succ,dx,ih]
theorem cg(h:Dg B l):aa B l<B^l.length:=by
 induction l with
 | nil=>simp
 | cons x l ih=>
   have h1:=ih fun y hy=>h y (by simp[hy]);have h2:x<B:=h x (by simp);simp only[dx,List.length_cons,Nat.pow_succ];have h3:B*(aa B l+1)≤B*B^l.length:=Nat.mul_le_mul_left _ h1;rw[Nat.mul_add]at h3;rw[Nat.mul_comm (B^l.length) B];omega
theorem aL{i:Nat}(h:i<l.length):aa B (l.take (i+1))=aa B (l.take i)+B^i*l[i]:=by
 rw[List.take_succ_eq_append_getElem h,b9,List.length_take,Nat.min_eq_left (by omega)]
theorem fU{i:Nat}(h:i<l.length):aa B (l.drop i)=l[i]+B*aa B (l.drop (i+1)):=by
 rw[List.drop_eq_getElem_cons h,dx]
theorem dK(i:Nat)(h:i≤l.length):aa B l=aa B (l.take i)+B^i*aa B (l.drop i):=by
 conv=>lhs;rw[←List.take_append_drop i l]
 rw[lN,List.length_take,Nat.min_eq_left h]
theorem Dg.take(h:Dg B l)(i:Nat):Dg B (l.take i):=fun x hx=>h x (List.mem_of_mem_take hx)
theorem Dg.drop(h:Dg B l)(i:Nat):Dg B (l.drop i):=fun x hx=>h x (List.mem_of_mem_drop hx)
theorem Dg.app(h:Dg B l)(k:Dg B m):Dg B (l++m):=fun x hx=>by
 rcases List.mem_append.1 hx with h1 | h1
 ·exact h x h1
 ·exact k x h1
theorem Dg.concat(h:Dg B l){x:Nat}(k:x<B):Dg B (l++[x]):=h.app fun y hy=>by simp at hy;omega
theorem Dg.get(h:Dg B l){i:Nat}(hi:i<l.length):l[i]<B:=h _ (List.getElem_mem hi)
theorem Dg.nil:Dg B []:=fun _ h=>by simp at h
theorem zg(l:List Nat):aa B (iJ l)=aa B l:=by
 induction l with
 | nil=>rfl
 | cons x l ih=>
   simp only[iJ,dx];rw[←ih];cases iJ l with
   | nil=>by_cases h:x=0<;>simp[h,dx]
   | cons y m=>rfl
theorem zp(l:List Nat):Nrm (iJ l):=by
 induction l with
 | nil=>simp[iJ,Nrm]
 | cons x l ih=>
   unfold Nrm at*;simp only[iJ];cases h:iJ l with
   | nil=>by_cases hx:x=0<;>simp[hx]
   | cons y m=>rw[h]at ih;simpa[List.getLast?_cons_cons] using ih
theorem lP(l:List Nat):iJ l <+: l:=by
 induction l with
 | nil=>simp[iJ]
 | cons x l ih=>
   simp only[iJ];cases h:iJ l with
   | nil=>by_cases hx:x=0<;>simp[hx]
   | cons y m=>rw[h]at ih;simpa[List.cons_prefix_cons] using ih
theorem zN(l:List Nat):(iJ l).length≤l.length:=(lP l).length_le
theorem By(h:Dg B l):Dg B (iJ l):=fun x hx=>h x ((lP l).subset hx)
theorem Nrm.tail{x:Nat}(h:Nrm (x::l)):Nrm l:=by
 unfold Nrm at*;cases l with
 | nil=>simp
 | cons y m=>rwa[List.getLast?_cons_cons]at h
theorem uf(hB:0<B)(h:Nrm l)(h0:aa B l=0):l=[]:=by
 induction l with
 | nil=>rfl
 | cons x l ih=>
   simp only[dx]at h0;have h1:aa B l=0:=by
    have:B*aa B l=0:=by omega
    rcases Nat.mul_eq_zero.1 this with h | h
    ·omega
    ·exact h
   have h2:=ih h.tail h1;subst h2;exfalso;apply h;have:x=0:=by omega
   simp[this]
theorem vw(hB:0<B):∀ {l m:List Nat},Dg B l→Dg B m→Nrm l→Nrm m→aa B l=aa B m→l=m
 | [],m,_,_,_,h2,h=>by rw[uf hB h2 h.symm]
 | x::l,[],_,_,h1,_,h=>by rw[uf hB h1 h]
 | x::l,y::m,d1,d2,h1,h2,h=>by
   simp only[dx]at h;have hx:=d1 x (by simp);have hy:=d2 y (by simp);have e1:x=y:=by
    have:=congrArg (· % B) h;simp only[Nat.add_mul_mod_self_left]at this;rwa[Nat.mod_eq_of_lt hx,Nat.mod_eq_of_lt hy]at this
   subst e1;have e2:aa B l=aa B m:=Nat.eq_of_mul_eq_mul_left hB (by omega);rw[vw hB (fun z hz=>d1 z (by simp[hz])) (fun z hz=>d2 z (by simp[hz])) h1.tail h2.tail e2]
theorem uT(_hB:0<B)(h:Nrm l)(h0:0<l.length):B^(l.length-1)≤aa B l:=by
 rcases List.eq_nil_or_concat l with rfl | ⟨m,x,rfl⟩
 ·simp at h0
 ·rw[List.concat_eq_append]at h h0 ⊢;have hx:x≠0:=fun hx=>h (by simp[hx]);rw[b9];simp only[List.length_append,List.length_cons,List.length_nil,Nat.zero_add,Nat.add_sub_cancel];have:=Nat.le_mul_of_pos_right (B^m.length) (Nat.pos_of_ne_zero hx);omega
theorem Bt(hB:1<B)(h:Nrm l){k:Nat}(hk:aa B l<B^k):l.length≤k:=by
 rcases Nat.lt_or_ge k l.length with h1 | h1
 ·have h2:=uT (by omega:0<B) h (by omega);have h3:B^k≤B^(l.length-1):=Nat.pow_le_pow_right (by omega) (by omega);omega
 ·exact h1
theorem qs(hB:1<B)(d:Dg B l)(h:Nrm m)(hl:l.length<m.length):aa B l<aa B m:=by
 have h1:=cg d;have h2:=uT (by omega:0<B) h (by omega);have h3:B^l.length≤B^(m.length-1):=Nat.pow_le_pow_right (by omega) (by omega);omega
end
def bJ(B n:Nat):List Nat:=if _h:n=0∨B<2 then []else n % B::bJ B (n / B)
termination_by n
decreasing_by exact Nat.div_lt_self (by omega) (by omega)
theorem el(B:Nat):bJ B 0=[]:=by rw[bJ];simp
theorem jt{B n:Nat}(hB:1<B)(hn:n≠0):bJ B n=n % B::bJ B (n / B):=by rw[bJ,dif_neg (by omega)]
theorem et{B:Nat}(hB:1<B)(n:Nat):aa B (bJ B n)=n:=by
 induction n using Nat.strongRecOn with
 | _ n ih=>
   by_cases h:n=0
   ·subst h;rw[el];rfl
   ·rw[jt hB h,dx,ih _ (Nat.div_lt_self (by omega) hB)];exact Nat.mod_add_div n B
theorem kz{B:Nat}(hB:1<B)(n:Nat):Dg B (bJ B n):=by
 induction n using Nat.strongRecOn with
 | _ n ih=>
   by_cases h:n=0
   ·subst h;rw[el];exact Dg.nil
   ·rw[jt hB h];intro x hx;rcases List.mem_cons.1 hx with rfl | h1
    ·exact Nat.mod_lt _ (by omega)
    ·exact ih _ (Nat.div_lt_self (by omega) hB) x h1
theorem mK{B:Nat}(hB:1<B)(n:Nat):Nrm (bJ B n):=by
 induction n using Nat.strongRecOn with
 | _ n ih=>
   by_cases h:n=0
   ·subst h;rw[el];simp[Nrm]
   ·rw[jt hB h];have h1:=ih _ (Nat.div_lt_self (by omega) hB);unfold Nrm at*;cases e:bJ B (n / B)with
    | nil=>
      have h2:=et hB (n / B);rw[e]at h2;simp only[dval_nil]at h2;have h3:=Nat.mod_add_div n B;rw[←h2]at h3;simp;omega
    | cons y m=>rw[e]at h1;simpa[List.getLast?_cons_cons] using h1
theorem lT{B:Nat}(hB:1<B){l:List Nat}(d:Dg B l)(h:Nrm l):bJ B (aa B l)=l:=
 vw (by omega) (kz hB _) d (mK hB _) h (et hB _)
theorem yb{B:Nat}(hB:1<B){l:List Nat}(d:Dg B l):iJ l=bJ B (aa B l):=by
 rw[←lT hB (By d) (zp l),zg]
theorem gP{B n k:Nat}(hB:1<B)(h:n<B^k):(bJ B n).length≤k:=Bt hB (mK hB n) (by rwa[et hB])
theorem iu{B n:Nat}(hB:1<B):bJ B n=[]↔n=0:=by
 constructor
 ·intro h;rw[←et hB n,h];rfl
 ·rintro rfl;exact el B
theorem bN{B n m:Nat}(hB:1<B)(h:n≤m):(bJ B n).length≤(bJ B m).length:=by
 refine gP hB (Nat.lt_of_le_of_lt h ?_);have:=cg (kz hB m);rwa[et hB]at this
theorem zm{B n m:Nat}(hB:1<B)(h:bJ B n=bJ B m):n=m:=by rw[←et hB n,h,et hB]
theorem tE{B:Nat}{l m:List Nat}(hl:Dg B l)(i:Nat)(hi:i<l.length)(hm:i<m.length)(hlm:l.length=m.length)(he:l.drop (i+1)=m.drop (i+1))(h:l[i]<m[i]):aa B l<aa B m:=by
 rw[dK (B:=B) (l:=l) i (by omega),dK (B:=B) (l:=m) i (by omega),fU hi,fU hm,he];have h1:=cg (hl.take i);rw[List.length_take,Nat.min_eq_left (by omega)]at h1;have h2:B^i*(l[i]+1)≤B^i*m[i]:=Nat.mul_le_mul_left _ h;rw[Nat.mul_add]at h2 ⊢;rw[Nat.mul_add];omega
def cF(a b:Nat):Int:=if a<b then-1 else if b<a then 1 else 0
theorem iO{a b:Nat}(h:a<b):cF a b= -1:=by unfold cF;rw[if_pos h]
theorem jn{a b:Nat}(h:b<a):cF a b=1:=by unfold cF;rw[if_neg (by omega),if_pos h]
theorem lV(a:Nat):cF a a=0:=by unfold cF;rw[if_neg (by omega),if_neg (by omega)]
def eJ(b:List Bool):List Nat:=b.map Bool.toNat
def aF(b:List Bool):Nat:=aa 2 (eJ b)
def bits(n:Nat):List Bool:=(bJ 2 n).map (· ==1)
def uU(b:List Bool):Prop:=b.getLast?≠some false
theorem qW(b:List Bool):Dg 2 (eJ b):=by
 intro x hx;obtain⟨c,_,rfl⟩:=List.mem_map.1 hx;cases c<;>decide
theorem iH(b:List Bool):(eJ b).length=b.length:=by simp[eJ]
theorem rS(n:Nat):eJ (bits n)=bJ 2 n:=by
 unfold eJ bits;rw[List.map_map];have h:=kz (B:=2) (by decide) n;generalize bJ 2 n=l at h
 induction l with
 | nil=>rfl
 | cons x l ih=>
   rw[List.map_cons,ih fun y hy=>h y (by simp[hy])];have:=h x (by simp);rcases (by omega:x=0∨x=1)with rfl | rfl<;>rfl
theorem zt{a b:List Bool}(h:eJ a=eJ b):a=b:=by
 unfold eJ at h;exact List.map_inj_right (fun x y hxy=>by cases x<;>cases y<;>simp_all)|>.1 h
theorem zb{b:List Bool}(h:uU b):Nrm (eJ b):=by
 unfold Nrm uU eJ at*;rw[List.getLast?_map];intro h1;obtain⟨c,hc,h2⟩:=Option.map_eq_some_iff.1 h1;cases c with
 | false=>exact h hc
 | true=>simp at h2
theorem cG(n:Nat):aF (bits n)=n:=by unfold aF;rw[rS,et (by decide)]
theorem Bv{b:List Bool}(h:uU b):bits (aF b)=b:=by
 apply zt;rw[rS];exact lT (by decide) (qW b) (zb h)
theorem fp(n:Nat):(bits n).length=(bJ 2 n).length:=by simp[bits]
theorem bits_eq_nil{n:Nat}:bits n=[]↔n=0:=by simp[bits,iu]
theorem zR{n m:Nat}(h:bits n=bits m):n=m:=by rw[←cG n,h,cG]
theorem jz(b:List Bool):aF b<2^b.length:=by
 have:=cg (qW b);rwa[iH]at this
theorem jQ(l:List Bool)(x:Bool):aF (l++[x])=aF l+2^l.length*x.toNat:=by
 unfold aF eJ;rw[List.map_append,List.map_cons,List.map_nil,b9,List.length_map]
theorem rJ(x:Bool)(l:List Bool):aF (x::l)=x.toNat+2*aF l:=rfl
theorem oY(l m:List Bool):aF (l++m)=aF l+2^l.length*aF m:=by
 unfold aF eJ;rw[List.map_append,lN,List.length_map]
section
variable {B:Nat}{l m:List Nat}
theorem il(P B t:Nat):P*(t % B)+P*B*(t / B)=P*t:=by
 rw[Nat.mul_assoc,←Nat.mul_add,Nat.mod_add_div]
theorem dP(l:List Nat)(i:Nat):aa B (l.take (i+1))=aa B (l.take i)+B^i*l.getD i 0:=by
 by_cases h:i<l.length
 ·rw[aL h,bY _ _ h]
 ·rw[List.take_of_length_le (by omega),List.take_of_length_le (by omega),gS _ _ (by omega)];simp
theorem sZ{i y:Nat}(h:i<l.length):aa B (l.set i y)+B^i*l[i]=aa B l+B^i*y:=by
 have h1:=dK (B:=B) (l:=l) (i+1) (by omega);have h2:=dK (B:=B) (l:=l.set i y) (i+1) (by simp;omega);rw[aL h]at h1;rw[aL (by simpa using h)]at h2;rw[List.take_set_of_le (Nat.le_refl _),List.drop_set_of_lt (by omega),List.getElem_set_self]at h2;omega
theorem Dg.set{i y:Nat}(h:Dg B l)(hy:y<B):Dg B (l.set i y):=fun x hx=>by
 rcases List.mem_or_eq_of_mem_set hx with h1 | h1
 ·exact h x h1
 ·omega
theorem Dg.getD(hB:0<B)(h:Dg B l)(i:Nat):l.getD i 0<B:=by
 by_cases hi:i<l.length
 ·rw[bY _ _ hi];exact h.get hi
 ·rw[gS _ _ (by omega)];exact hB
theorem y4{a b o:List Nat}{i c:Nat}(ho:o.length=i)(h:aa B o+B^i*c=aa B (a.take i)+aa B (b.take i)):
  aa B (o++[(c+a.getD i 0+b.getD i 0) % B])+B^(i+1)*((c+a.getD i 0+b.getD i 0) / B)=aa B (a.take (i+1))+aa B (b.take (i+1)):=by
 rw[b9,ho,dP,dP,Nat.pow_succ];have:=il (B^i) B (c+a.getD i 0+b.getD i 0);rw[Nat.mul_add,Nat.mul_add]at this;omega
theorem tq{B c x y:Nat}(hc:c≤1)(hx:x<B)(hy:y<B):(c+x+y) / B≤1:=by
 have:(c+x+y) / B<2:=Nat.div_lt_of_lt_mul (by omega);omega
theorem s8{a b o:List Nat}{i:Nat}{w:Nat}{d:Int}(ho:i<o.length)(hw:w≤1)(ha:a.getD i 0<B)(hb:b.getD i 0<B)
  (hd:d=(a.getD i 0:Int)-w-b.getD i 0) (h:aa B (o.take i)+aa B (b.take i)=aa B (a.take i)+B^i*w):
  aa B ((o.set i (d % B).toNat).take (i+1))+aa B (b.take (i+1))=aa B (a.take (i+1))+B^(i+1)*(if d<0 then 1 else 0):=by
 rw[dP,dP,dP,List.take_set_of_le (Nat.le_refl _),bY _ _ (by simpa using ho),List.getElem_set_self,Nat.pow_succ];have key:(d % B).toNat+b.getD i 0+w=a.getD i 0+B*(if d<0 then 1 else 0):=by
  generalize a.getD i 0=x at*;generalize b.getD i 0=y at*;by_cases hn:d<0
  ·rw[if_pos hn];have:d % B=d+B:=by
    rw[←Int.add_emod_right,Int.emod_eq_of_lt (by omega) (by omega)]
   omega
  ·rw[if_neg hn];have:d % B=d:=Int.emod_eq_of_lt (by omega) (by omega);omega
 have:=congrArg (B^i* ·) key;simp only[Nat.mul_add]at this;rw[Nat.mul_assoc];omega
theorem zn{D D' P S c x y z:Nat}(h:D+P*c=S)(hs:D'+P*z=D+P*((c+(x*y+z)) % B)):D'+P*B*((c+(x*y+z)) / B)=S+P*(x*y):=by
 have:=il P B (c+(x*y+z));simp only[Nat.mul_add]at this;omega
theorem y7{B c x y z:Nat}(hc:c<B)(hx:x<B)(hy:y<B)(hz:z<B):c+(x*y+z)<B*B:=by
 have h1:x*y≤(B-1)*(B-1):=Nat.mul_le_mul (by omega) (by omega);obtain⟨k,rfl⟩:∃ k,B=k+1:=⟨B-1,by omega⟩
 simp only[Nat.add_sub_cancel]at h1;have:(k+1)*(k+1)=k*k+k+k+1:=by rw[Nat.add_mul,Nat.mul_add];omega
 omega
theorem xC{a q w r x:Nat}(h:a=q*w+r):x+B*a=((r*B+x) / w+B*q)*w+(r*B+x) % w:=by
 have h1:=Nat.mod_add_div (r*B+x) w;rw[Nat.add_mul,h,Nat.mul_add,Nat.mul_comm ((r*B+x) / w) w,Nat.mul_assoc,Nat.mul_comm B r];omega
theorem Bc{w r x:Nat}(hr:r<w)(hx:x<B):(r*B+x) / w<B:=by
 apply Nat.div_lt_of_lt_mul;have:(r+1)*B≤w*B:=Nat.mul_le_mul_right _ hr;rw[Nat.add_mul]at this;omega
theorem sQ{U V T W g:Nat}{P:Nat}(hU:U<(T+1)*P)(hV:W*P≤V)(h:T<g*W):U / V<g:=by
 apply Nat.div_lt_of_lt_mul;have h1:(T+1)*P≤g*W*P:=Nat.mul_le_mul_right _ h;have h2:g*(W*P)≤g*V:=Nat.mul_le_mul_left _ hV;rw[Nat.mul_assoc]at h1;rw[Nat.mul_comm V g];omega
theorem uA{U V T W g:Nat}{P:Nat}(hU:T*P≤U)(hV:V<(W+1)*P)(h:g*W≤T)(hg:g≤W+1)(hV0:0<V):g≤U / V+1:=by
 rcases Nat.lt_or_ge (U / V+1) g with h1 | h1
 ·exfalso;have h2:U<(U / V+1)*V:=by
   have h3:=Nat.mod_add_div U V;have h4:=Nat.mod_lt U hV0;rw[Nat.add_mul,Nat.mul_comm (U / V) V];omega
  have h3:(U / V+1)*V≤(g-1)*V:=Nat.mul_le_mul_right _ (by omega);have h4:(g-1)*(V+1)≤(g-1)*((W+1)*P):=Nat.mul_le_mul_left _ hV;have h5:g*W*P≤T*P:=Nat.mul_le_mul_right _ h;have h6:(g-1)*(W+1)*P≤g*W*P:=by
   refine Nat.mul_le_mul_right _ ?_;have hg1:1≤g:=Nat.lt_of_le_of_lt (Nat.zero_le _) h1;obtain⟨k,rfl⟩:∃ k,g=k+1:=⟨g-1,by clear h1 h2 h3 h4 h5;omega⟩
   simp only[Nat.add_sub_cancel,Nat.mul_add,Nat.add_mul,Nat.mul_one,Nat.one_mul];omega
  rw[Nat.mul_add]at h4;rw[Nat.mul_assoc]at h6;omega
 ·exact h1
theorem xN{B P u v S x g w owed:Nat}(hB:0<B)(h:u+g*v=S+P*owed)(hx:x<B):
  (u+P*((x+B-(g*w+owed) % B) % B))+g*(v+P*w)=(S+P*x)+P*B*((g*w+owed) / B+(if x<(g*w+owed) % B then 1 else 0)):=by
 have h1:=il P B (g*w+owed);have h2:(g*w+owed) % B<B:=Nat.mod_lt _ hB;have h3:P*((x+B-(g*w+owed) % B) % B)+P*((g*w+owed) % B)=P*x+P*B*(if x<(g*w+owed) % B then 1 else 0):=by
  rw[←Nat.mul_add,Nat.mul_assoc P B,←Nat.mul_add]
  congr 1
  by_cases hlt:x<(g*w+owed) % B
  ·rw[if_pos hlt,Nat.mod_eq_of_lt (by omega)];omega
  ·rw[if_neg hlt,show x+B-(g*w+owed) % B=(x-(g*w+owed) % B)+B by omega,Nat.add_mod_right,Nat.mod_eq_of_lt (by omega)];omega
 simp only[Nat.mul_add]at h1 ⊢;have e:g*(P*w)=P*(g*w):=by rw[←Nat.mul_assoc,Nat.mul_comm g P,Nat.mul_assoc]
 rw[e];omega
theorem A3{P u v S g owed:Nat}(h:u+g*v=S+P*owed)(hu:u<P)(hv:v<P):owed≤g:=by
 rcases Nat.lt_or_ge g owed with h1 | h1
 ·exfalso;have h2:P*(g+1)≤P*owed:=Nat.mul_le_mul_left _ h1;have h3:g*v≤g*P:=Nat.mul_le_mul_left _ (by omega);rw[Nat.mul_add,Nat.mul_comm P g]at h2;omega
 ·exact h1
theorem xF{B P u V S g owed last:Nat}(hB:0<B)(h:u+g*V=S+P*owed)(hu:u<P)(ho:owed≤B)(hl:last<B):
  (last<owed→S+P*last<g*V∧(u+P*((last+B-owed % B) % B))+g*V=S+P*last+P*B)∧
  (¬last<owed→(u+P*((last+B-owed % B) % B))+g*V=S+P*last):=by
 constructor
 ·intro hlt;have e:(last+B-owed % B) % B=last+B-owed:=by
   by_cases hb:owed=B
   ·subst hb;simp[Nat.mod_self,Nat.mod_eq_of_lt hl]
   ·rw[Nat.mod_eq_of_lt (by omega:owed<B),Nat.mod_eq_of_lt (by omega)]
  have h1:P*(last+1)≤P*owed:=Nat.mul_le_mul_left _ hlt;have h2:P*(last+B-owed)+P*owed=P*last+P*B:=by rw[←Nat.mul_add,←Nat.mul_add];congr 1;omega
  rw[e];rw[Nat.mul_add]at h1;constructor<;>omega
 ·intro hlt;have e:(last+B-owed % B) % B=last-owed:=by
   rw[Nat.mod_eq_of_lt (by omega:owed<B),show last+B-owed=(last-owed)+B by omega,Nat.add_mod_right,Nat.mod_eq_of_lt (by omega)]
  have h2:P*(last-owed)+P*owed=P*last:=by rw[←Nat.mul_add];congr 1;omega
  rw[e];omega
theorem yD{B P u v S x w c:Nat}(h:u+P*c=S+v):(u+P*((c+(x+w)) % B))+P*B*((c+(x+w)) / B)=(S+P*x)+(v+P*w):=by
 have:=il P B (c+(x+w));simp only[Nat.mul_add]at this;omega
end
def ae(n:Nat):List Nat:=bJ 4294967296 n
section
variable {B:Nat}{l m:List Nat}
theorem nV{α:Type}(l:List α)(n:Nat)(h:0<n)(hn:n≤l.length):(l.take n).getLast?=l[n-1]?:=by
 rw[List.getLast?_eq_getElem?,List.length_take,Nat.min_eq_left hn,List.getElem?_take];rw[if_pos (by omega)]
theorem nR(hB:1<B)(d:Dg B l){n:Nat}(hn:n≤l.length)(hv:aa B (l.take n)=aa B l)(hz:n=0∨l.getD (n-1) 0≠0):bJ B (aa B l)=l.take n:=by
 rw[←hv];refine lT hB (d.take n) ?_;rcases Nat.eq_zero_or_pos n with h0 | h0
 ·subst h0;simp[Nrm]
 ·unfold Nrm;rw[nV l n h0 hn];rcases hz with h1 | h1
  ·omega
  ·intro h2;apply h1;simp[List.getD,h2]
theorem lY{n:Nat}(h:0<n)(h0:l.getD (n-1) 0=0):aa B (l.take (n-1))=aa B (l.take n):=by
 have:=dP (B:=B) l (n-1);rw[Nat.sub_add_cancel h,h0]at this;rw[this];simp
theorem bM(hB:1<B)(d:Dg B l):bJ B (aa B l)=l.take (bJ B (aa B l)).length∧(bJ B (aa B l)).length≤l.length:=by
 rw[←yb hB d];refine⟨?_,zN l⟩;have:=lP l;exact List.prefix_iff_eq_take.1 this
end
section
variable {a b o:List Bool}
theorem jv:aF []=0:=rfl
theorem jr{i:Nat}(h:i<b.length):aF (b.take (i+1))=aF (b.take i)+2^i*b[i].toNat:=by
 rw[List.take_succ_eq_append_getElem h,jQ,List.length_take,Nat.min_eq_left (by omega)]
theorem mX{i:Nat}(h:b.length≤i):aF (b.take i)=aF b:=by rw[List.take_of_length_le h]
theorem xG{i:Nat}(h:i<b.length):aF (b.drop i)=b[i].toNat+2*aF (b.drop (i+1)):=by
 rw[List.drop_eq_getElem_cons h,rJ]
theorem pN(n:Nat):aF (List.replicate n false)=0:=by
 unfold aF eJ;rw[List.map_replicate];exact qx n
theorem zq{i:Nat}(h:i<b.length)(h0:b[i]=false):aF (b.set i true)=aF b+2^i:=by
 have h1:=sZ (B:=2) (l:=eJ b) (i:=i) (y:=1) (by rw[iH];exact h);have h2:(eJ b)[i]'(by rw[iH];exact h)=0:=by simp[eJ,h0]
 rw[h2]at h1;have h3:eJ (b.set i true)=(eJ b).set i 1:=by simp[eJ,List.map_set]
 unfold aF;rw[h3];omega
theorem rA{n:Nat}(hn:n≤b.length)(hv:aF (b.take n)=aF b)(hz:n=0∨b.getD (n-1) false=true):bits (aF b)=b.take n:=by
 rw[←hv];refine Bv ?_;rcases Nat.eq_zero_or_pos n with h0 | h0
 ·subst h0;simp[uU]
 ·unfold uU;rw[nV b n h0 hn];rcases hz with h1 | h1
  ·omega
  ·intro h2;simp[List.getD,h2]at h1
theorem qS{n:Nat}(h:0<n)(hn:n≤b.length)(h0:b.getD (n-1) false=false):aF (b.take (n-1))=aF (b.take n):=by
 have h1:n-1<b.length:=by omega
 have:=jr (b:=b) h1;rw[Nat.sub_add_cancel h]at this;rw[bY _ _ h1]at h0;rw[this,h0];simp
def fF(b:List Bool)(i:Nat):Nat:=(b.getD i false).toNat
theorem vZ{i:Nat}(h:i<b.length):fF b i=b[i].toNat:=by unfold fF;rw[bY _ _ h]
theorem tj{i:Nat}(h:b.length≤i):fF b i=0:=by unfold fF;rw[gS _ _ h];rfl
theorem gX(b:List Bool)(i:Nat):aF (b.take (i+1))=aF (b.take i)+2^i*fF b i:=by
 by_cases h:i<b.length
 ·rw[jr h,vZ h]
 ·rw[mX (by omega),mX (by omega),tj (by omega)];simp
theorem yS{i c:Nat}{x:Bool}{d:Nat}(ho:o.length=i)(h:aF o+2^i*c=aF (a.take i)+aF (b.take i))(hx:x.toNat+2*d=c+fF a i+fF b i):
  aF (o++[x])+2^(i+1)*d=aF (a.take (i+1))+aF (b.take (i+1)):=by
 rw[jQ,ho,gX,gX,Nat.pow_succ,Nat.mul_assoc];have:=congrArg (2^i* ·) hx;simp only[Nat.mul_add]at this;omega
theorem xE{i w d:Nat}{x:Bool}(ho:o.length=i)(h:aF o+aF (b.take i)=aF (a.take i)+2^i*w)(hx:x.toNat+fF b i+w=fF a i+2*d):
  aF (o++[x])+aF (b.take (i+1))=aF (a.take (i+1))+2^(i+1)*d:=by
 rw[jQ,ho,gX,gX,Nat.pow_succ,Nat.mul_assoc];have:=congrArg (2^i* ·) hx;simp only[Nat.mul_add]at this;omega
theorem zU{n:Nat}{w X Y O:Nat}(h:O+Y=X+2^n*w)(hO:O<2^n)(hle:Y≤X):O=X-Y:=by
 rcases Nat.eq_zero_or_pos w with h0 | h0
 ·subst h0;omega
 ·have:2^n≤2^n*w:=Nat.le_mul_of_pos_right _ h0;omega
theorem BL{D Q R m x:Nat}(h:D=Q*m+R)(_hR:R<m)(hge:m≤x+2*R):x+2*D=(2*Q+1)*m+(x+2*R-m):=by
 rw[Nat.add_mul,Nat.mul_assoc,Nat.one_mul];omega
theorem A4{D Q R m x:Nat}(h:D=Q*m+R):x+2*D=(2*Q)*m+(x+2*R):=by
 rw[Nat.mul_assoc];omega
theorem mE{D Q R m:Nat}(h:D=Q*m+R)(hR:R<m):Q=D / m∧R=D % m:=by
 subst h;rw[Nat.mul_comm Q m,Nat.mul_add_div (by omega),Nat.div_eq_of_lt hR,Nat.mul_add_mod,Nat.mod_eq_of_lt hR];exact⟨rfl,rfl⟩
theorem wh{i:Nat}(hi:i<a.length)(hm:i<b.length)(hlm:a.length=b.length)(he:a.drop (i+1)=b.drop (i+1))(h1:a[i]=false)(h2:b[i]=true):aF a<aF b:=by
 refine tE (B:=2) (qW a) i (by rw[iH];exact hi) (by rw[iH];exact hm) (by rw[iH,iH];exact hlm) ?_ ?_
 ·unfold eJ;rw[←List.map_drop,←List.map_drop,he]
 ·simp[eJ,h1,h2]
theorem o6{n m:Nat}(h:(bits n).length<(bits m).length):n<m:=by
 rcases Nat.lt_or_ge n m with h1 | h1
 ·exact h1
 ·have:=bN (B:=2) (by decide) h1;rw[fp,fp]at h;omega
theorem bT{n k:Nat}(h:n<2^k):(bits n).length≤k:=by rw[fp];exact gP (by decide) h
theorem iA{n k:Nat}(h:n<2^k):(ae n).length≤k:=by
 refine gP (by decide) (Nat.lt_of_lt_of_le h ?_);exact Nat.pow_le_pow_left (by decide) k
theorem z8{i w w0:Nat}{x:Bool}(h:aF o+2^i*w=w0)(ho:o.length=i)(hx:x.toNat=w % 2):aF (o++[x])+2^(i+1)*(w / 2)=w0:=by
 rw[jQ,ho,hx,Nat.pow_succ,Nat.mul_assoc];have:2^i*(w % 2+2*(w / 2))=2^i*w:=by rw[Nat.mod_add_div]
 rw[Nat.mul_add]at this;omega
end
theorem D4(k:Nat):(4294967296:Nat)^k=2^(32*k):=by
 rw[Nat.pow_mul]
theorem qY(s a b:Nat)(h:a<2^s):a ||| (b*2^s)=a+b*2^s:=by
 have:=Nat.two_pow_add_eq_or_of_lt h b;rw[Nat.or_comm,Nat.mul_comm b,←this,Nat.add_comm]
theorem xX{u s:Nat}(hu:u<4294967296)(hs:s≤31):u*2^s+2^s≤9223372036854775808:=by
 have h1:2^s≤2^31:=Nat.pow_le_pow_right (by decide) hs;have h2:(u+1)*2^s≤4294967296*2^31:=Nat.mul_le_mul (by omega) h1;rw[Nat.add_mul]at h2;omega
theorem B2{cc u s:Nat}(hc:cc<2^s)(hu:u<4294967296)(hs:s≤31):Go.bits .or .u64 (cc:Int) (IntKind.u64.wrap ((u:Int)*2^s))=((cc+u*2^s:Nat):Int):=by
 have h1:=xX hu hs;have h2:(u:Int)*2^s=((u*2^s:Nat):Int):=by push_cast;rfl
 have h3:IntKind.u64.wrap ((u*2^s:Nat):Int)=((u*2^s:Nat):Int):=by rw[IntKind.wrap_u64];omega
 rw[h2,h3,bits_or_u64_nat _ _ (by omega) (by omega),qY s cc u hc]
theorem zf{B:Nat}{p o:List Nat}{k s cc u:Nat}(ho:o.length=k)(hk:k<p.length)(hu:p[k]=u)(h:aa B o+B^k*cc=aa B (p.take k)*2^s):
  aa B (o++[(cc+u*2^s) % B])+B^(k+1)*((cc+u*2^s) / B)=aa B (p.take (k+1))*2^s:=by
 rw[b9,ho,aL hk,hu,Nat.pow_succ,Nat.add_mul,Nat.mul_assoc (B^k) u];have:=il (B^k) B (cc+u*2^s);simp only[Nat.mul_add]at this ⊢;omega
theorem xY{cc u s:Nat}(hc:cc<2^s)(hu:u<4294967296):(cc+u*2^s) / 4294967296<2^s:=by
 apply Nat.div_lt_of_lt_mul;have:(u+1)*2^s≤4294967296*2^s:=Nat.mul_le_mul_right _ hu;rw[Nat.add_mul]at this;omega
theorem tU(X B k:Nat):X % B^(k+1)=X % B^k+B^k*(X / B^k % B):=Nat.mod_pow_succ
theorem Ab{p:List Nat}(hp:Dg 4294967296 p){k s:Nat}(hs:s≤31)(hk:k<p.length):aa 4294967296 p / 2^s / 4294967296^k % 4294967296=(p[k]+p.getD (k+1) 0*4294967296) / 2^s % 4294967296:=by
 have h1:aa 4294967296 p / 4294967296^k=aa 4294967296 (p.drop k):=by
  rw[dK (B:=4294967296) (l:=p) k (by omega)];have:=cg (hp.take k);rw[List.length_take,Nat.min_eq_left (by omega)]at this;rw[Nat.add_mul_div_left _ _ (Nat.pow_pos (by decide)),Nat.div_eq_of_lt this,Nat.zero_add]
 rw[Nat.div_div_eq_div_mul,Nat.mul_comm,←Nat.div_div_eq_div_mul,h1];have h2:∃ Y,aa 4294967296 (p.drop k)=p[k]+p.getD (k+1) 0*4294967296+4294967296*4294967296*Y:=by
  rw[fU hk];by_cases h:k+1<p.length
  ·rw[fU h,bY _ _ h];exact⟨aa 4294967296 (p.drop (k+1+1)),by omega⟩
  ·rw[List.drop_eq_nil_of_le (by omega),gS _ _ (by omega)];exact⟨0,by simp⟩
 obtain⟨Y,hY⟩:=h2;rw[hY];have h3:(4294967296*4294967296*Y:Nat)=2^s*(4294967296*(2^(32-s)*Y)):=by
  have:(4294967296:Nat)=2^s*2^(32-s):=by rw[←Nat.pow_add,show s+(32-s)=32 by omega]
  have h4:(4294967296*4294967296*Y:Nat)=4294967296*(4294967296*Y):=Nat.mul_assoc _ _ _;rw[h4]
  conv=>lhs;rw[this]
  rw[Nat.mul_assoc,←Nat.mul_assoc (2^(32-s)),Nat.mul_comm (2^(32-s)),Nat.mul_assoc,←this]
 rw[h3,Nat.add_mul_div_left _ _ (Nat.pow_pos (by decide)),Nat.add_mul_mod_self_left]
theorem Bz{p:List Nat}(hp:Dg 4294967296 p)(s:Nat):aa 4294967296 p / 2^s % 4294967296^p.length=aa 4294967296 p / 2^s:=
 Nat.mod_eq_of_lt (Nat.lt_of_le_of_lt (Nat.div_le_self _ _) (cg hp))
theorem xD{B N i S cc u v z:Nat}{o:List Nat}(hi:i<N)(hN:N≤o.length)(hz:∀ h:i<o.length,o[i]=z)(h:aa B (o.take N)+B^i*cc=S):
  aa B ((o.set i ((cc+(u*v+z)) % B)).take N)+B^(i+1)*((cc+(u*v+z)) / B)=S+B^i*(u*v):=by
 rw[List.take_set,Nat.pow_succ];refine zn h ?_;have:=sZ (B:=B) (l:=o.take N) (i:=i) (y:=(cc+(u*v+z)) % B) (by rw[List.length_take];omega);rw[List.getElem_take,hz (by omega)]at this;exact this
theorem mulU_inner{B k j X u v D:Nat}:X+B^k*(u*D)+B^(k+j)*(u*v)=X+B^k*(u*(D+B^j*v)):=by
 rw[Nat.mul_add u,Nat.mul_add (B^k),Nat.pow_add,Nat.add_assoc,Nat.mul_assoc];have e:B^j*(u*v)=u*(B^j*v):=by rw[←Nat.mul_assoc,Nat.mul_comm (B^j) u,Nat.mul_assoc]
 rw[e]
theorem w8{B k n cc u P Q:Nat}{o:List Nat}(hi:k+n<o.length)(h:aa B (o.take (k+n))+B^(k+n)*cc=P*Q+B^k*(u*Q)):
  aa B ((o.set (k+n) cc).take (k+1+n))=(P+B^k*u)*Q:=by
 rw[show k+1+n=k+n+1 by omega,aL (by rw[List.length_set];exact hi),List.take_set_of_le (Nat.le_refl _),List.getElem_set_self,h,Nat.add_mul,Nat.mul_assoc]
def dq(xs:List Nat)(j i:Nat):Nat:=aa 4294967296 ((xs.drop j).take i)
theorem sP(xs:List Nat)(j:Nat):dq xs j 0=0:=by simp[dq]
theorem fZ{xs:List Nat}{j i:Nat}(h:j+i<xs.length):dq xs j (i+1)=dq xs j i+4294967296^i*xs[j+i]:=by
 unfold dq;rw[aL (by rw[List.length_drop];omega),List.getElem_drop]
theorem oL{xs:List Nat}{j i p y:Nat}(h:j+i≤p):dq (xs.set p y) j i=dq xs j i:=by
 unfold dq
 congr 1
 apply List.ext_getElem?;intro q;rw[List.getElem?_take,List.getElem?_take];split
 ·rw[List.getElem?_drop,List.getElem?_drop,List.getElem?_set_ne (by omega)]
 ·rfl
theorem qg{xs:List Nat}(h:Dg 4294967296 xs)(j i:Nat):dq xs j i<4294967296^i:=by
 have h1:=cg ((h.drop j).take i);have h2:4294967296^((xs.drop j).take i).length≤4294967296^i:=Nat.pow_le_pow_right (by decide) (List.length_take_le _ _);exact Nat.lt_of_lt_of_le h1 h2
def Out(xs xs':List Nat)(j i:Nat):Prop:=xs'.length=xs.length∧∀ q,(q<j∨j+i≤q)→xs'.getD q 0=xs.getD q 0
theorem Out.refl(xs:List Nat)(j i:Nat):Out xs xs j i:=⟨rfl,fun _ _=>rfl⟩
theorem Out.get{xs xs':List Nat}{j i q:Nat}(h:Out xs xs' j i)(hq:q<j∨j+i≤q)(h1:q<xs.length):xs'[q]'(by rw[h.1];exact h1)=xs[q]:=by
 have:=h.2 q hq;rwa[bY _ _ (by rw[h.1];exact h1),bY _ _ h1]at this
theorem Out.set{xs xs':List Nat}{j i y:Nat}(h:Out xs xs' j i):Out xs (xs'.set (j+i) y) j (i+1):=by
 refine⟨by rw[List.length_set];exact h.1,fun q hq=>?_⟩;rw[←h.2 q (by omega),List.getD_eq_getElem?_getD,List.getD_eq_getElem?_getD,List.getElem?_set_ne (by omega)]
theorem Out.mono{xs xs':List Nat}{j i i':Nat}(h:Out xs xs' j i)(hi:i≤i'):Out xs xs' j i':=⟨h.1,fun q hq=>h.2 q (by omega)⟩
theorem Out.tr{xs ys zs:List Nat}{j i:Nat}(h:Out xs ys j i)(k:Out ys zs j i):Out xs zs j i:=⟨k.1.trans h.1,fun q hq=>(k.2 q hq).trans (h.2 q hq)⟩
theorem Out.drop{xs xs':List Nat}{j i p:Nat}(h:Out xs xs' j i)(hp:j+i≤p):xs'.drop p=xs.drop p:=by
 apply List.ext_getElem
 ·rw[List.length_drop,List.length_drop,h.1]
 ·intro q h1 h2;rw[List.length_drop]at h1 h2;rw[List.getElem_drop,List.getElem_drop];exact h.get (.inr (by omega)) (by omega)
theorem Out.take{xs xs':List Nat}{j i p:Nat}(h:Out xs xs' j i)(hp:p≤j):xs'.take p=xs.take p:=by
 apply List.ext_getElem
 ·rw[List.length_take,List.length_take,h.1]
 ·intro q h1 h2;rw[List.length_take]at h1 h2;rw[List.getElem_take,List.getElem_take];exact h.get (.inl (by omega)) (by omega)
def bH(neg:Bool)(n:Nat):Int:=if neg then-(n:Int)else n
theorem pR(neg:Bool)(n:Nat):(bH neg n).natAbs=n:=by cases neg<;>simp[bH]
theorem vI(n:Int):bH (decide (n<0)) n.natAbs=n:=by
 unfold bH;by_cases h:n<0
 ·simp[h];omega
 ·simp[h];omega
theorem Dh{neg:Bool}{n:Nat}:decide (bH neg n<0)=(neg&&decide (0<n)):=by
 cases neg<;>simp[bH]
theorem A1(a b:Bool)(n m:Nat):bH (a != b) (n*m)=bH a n*bH b m:=by
 cases a<;>cases b<;>simp[bH,Int.neg_mul,Int.mul_neg]
theorem rG(a:Bool)(n m:Nat):bH a (n*m)=bH a n*m:=by
 cases a<;>simp[bH,Int.neg_mul]
def cM(an:Bool)(a:Nat)(bn:Bool)(b:Nat):Bool×Nat:=if an=bn then(an,a+b)else if b≤a then(an,a-b)else(bn,b-a)
theorem BD(an:Bool)(a:Nat)(bn:Bool)(b:Nat):bH (cM an a bn b).1 (cM an a bn b).2=bH an a+bH bn b:=by
 unfold cM;split
 ·rename_i h;subst h;cases an<;>simp[bH];omega
 ·split
  ·cases an<;>cases bn<;>simp_all[bH]<;>omega
  ·cases an<;>cases bn<;>simp_all[bH]<;>omega
theorem vu(an:Bool)(a:Nat)(bn:Bool)(b:Nat):(cM an a bn b).2≤a+b:=by
 unfold cM;split<;>(try split)<;>simp<;>omega
theorem pC(neg:Bool)(n d:Nat)(h:d≠0):(mkRat (bH neg n) d).num.natAbs=n / n.gcd d∧(mkRat (bH neg n) d).den=d / n.gcd d∧decide ((mkRat (bH neg n) d).num<0)=(neg&&decide (0<n)):=by
 have e:mkRat (bH neg n) d=Rat.normalize (bH neg n) d h:=by rw[mkRat,dif_neg h]
 rw[e,Rat.normalize_eq];simp only[pR];have hg:0<n.gcd d:=Nat.gcd_pos_of_pos_right _ (by omega);have hd:n.gcd d ∣ n:=Nat.gcd_dvd_left _ _;have e2:bH neg n / ((n.gcd d:Nat):Int)=bH neg (n / n.gcd d):=by
  cases neg
  ·simp[bH]
  ·simp only[bH,if_true];rw[Int.neg_ediv_of_dvd (Int.ofNat_dvd.2 hd)];simp
 rw[e2,pR,Dh];refine⟨by trivial,by trivial,?_⟩
 congr 1
 refine decide_eq_decide.2 ⟨fun h1=>?_,fun h1=>Nat.div_pos (Nat.le_of_dvd h1 hd) hg⟩;rcases Nat.eq_zero_or_pos n with h0 | h0
 ·subst h0;simp at h1
 ·exact h0
theorem nD(a b:Rat):a+b=mkRat (a.num*b.den+b.num*a.den) (a.den*b.den):=by
 rw[Rat.add_def,Rat.normalize_eq_mkRat]
theorem oe(a b:Rat):a*b=mkRat (a.num*b.num) (a.den*b.den):=by
 rw[Rat.mul_def,Rat.normalize_eq_mkRat]
def Bd(k:Nat)(q:Rat):Prop:=q.num.natAbs<2^k∧q.den<2^k
theorem Bd.mono{k m:Nat}{q:Rat}(h:Bd k q)(hm:k≤m):Bd m q:=
 ⟨Nat.lt_of_lt_of_le h.1 (Nat.pow_le_pow_right (by decide) hm),Nat.lt_of_lt_of_le h.2 (Nat.pow_le_pow_right (by decide) hm)⟩
theorem Bd.made{k:Nat}{neg:Bool}{n d:Nat}(h:d≠0)(hn:n<2^k)(hd:d<2^k):Bd k (mkRat (bH neg n) d):=by
 obtain⟨h1,h2,_⟩:=pC neg n d h;exact⟨by rw[h1];exact Nat.lt_of_le_of_lt (Nat.div_le_self _ _) hn,by rw[h2];exact Nat.lt_of_le_of_lt (Nat.div_le_self _ _) hd⟩
theorem Bd.AJ{k:Nat}{n:Int}{d:Nat}(h:d≠0)(hn:n.natAbs<2^k)(hd:d<2^k):Bd k (mkRat n d):=by
 have:=Bd.made (neg:=decide (n<0)) h hn hd;rwa[vI]at this
theorem bu{a b k m:Nat}(h1:a<2^k)(h2:b<2^m):a*b<2^(k+m):=by
 rw[Nat.pow_add];rcases Nat.eq_zero_or_pos a with h | h
 ·subst h;rw[Nat.zero_mul];exact Nat.mul_pos (Nat.pow_pos (by decide)) (Nat.pow_pos (by decide))
 ·calc a*b<a*2^m:=Nat.mul_lt_mul_of_pos_left h2 h
   _≤2^k*2^m:=Nat.mul_le_mul_right _ (by omega)
theorem Bd.add{k m:Nat}{a b:Rat}(ha:Bd k a)(hb:Bd m b):Bd (k+m+1) (a+b):=by
 rw[nD];have h1:=bu ha.1 hb.2;have h2:=bu hb.1 ha.2;have h3:=bu ha.2 hb.2;rw[Nat.add_comm m k]at h2;refine Bd.AJ (Nat.mul_ne_zero a.den_nz b.den_nz) ?_ ?_
 ·have h4:(a.num*b.den+b.num*a.den).natAbs≤a.num.natAbs*b.den+b.num.natAbs*a.den:=by
   have:=Int.natAbs_add_le (a.num*b.den) (b.num*a.den);rw[Int.natAbs_mul,Int.natAbs_mul]at this;simpa using this
  rw[Nat.pow_succ];omega
 ·rw[Nat.pow_succ];omega
theorem Bd.mul{k m:Nat}{a b:Rat}(ha:Bd k a)(hb:Bd m b):Bd (k+m) (a*b):=by
 rw[oe];refine Bd.AJ (Nat.mul_ne_zero a.den_nz b.den_nz) ?_ (bu ha.2 hb.2);rw[Int.natAbs_mul];exact bu ha.1 hb.1
theorem Bd.neg{k:Nat}{a:Rat}(ha:Bd k a):Bd k (-a):=by
 refine⟨?_,?_⟩
 ·rw[Rat.neg_num,Int.natAbs_neg];exact ha.1
 ·rw[Rat.neg_den];exact ha.2
theorem Bd.zero{k:Nat}(h:0<k):Bd k 0:=by
 have:2^1≤2^k:=Nat.pow_le_pow_right (by decide) h;exact⟨by simp;exact Nat.pow_pos (by decide),by simp;omega⟩
abbrev Tm:=Int×Rat
def ar:List Tm→Int→Rat
 | [],_=>0
 | t::l,v=>(if t.1=v then t.2 else 0)+ar l v
theorem gy(l m:List Tm)(v:Int):ar (l++m) v=ar l v+ar m v:=by
 induction l with
 | nil=>simp only[List.nil_append,ar];grind
 | cons t l ih=>simp only[List.cons_append,ar,ih,Rat.add_assoc]
theorem xW{l m:List Tm}(h:l.Perm m)(v:Int):ar l v=ar m v:=by
 induction h with
 | nil=>rfl
 | cons x _ ih=>simp only[ar,ih]
 | swap x y l=>simp only[ar];grind
 | trans _ _ h1 h2=>rw[h1,h2]
theorem jW{l:List Tm}{v:Int}(h:∀ t∈l,t.1≠v):ar l v=0:=by
 induction l with
 | nil=>rfl
 | cons t l ih=>rw[ar,if_neg (h t (by simp)),ih fun x hx=>h x (by simp[hx])];grind
theorem uO(l:List Tm)(r:Rat)(v:Int):ar (l.map fun t=>(t.1,r*t.2)) v=r*ar l v:=by
 induction l with
 | nil=>simp[ar]
 | cons t l ih=>simp only[List.map_cons,ar,ih];split<;>grind
def Form(l:List Tm):Prop:=l.Pairwise (fun a b=>a.1<b.1)∧∀ t∈l,t.2≠0
theorem Form.tail{t:Tm}{l:List Tm}(h:Form (t::l)):Form l:=⟨(List.pairwise_cons.1 h.1).2,fun x hx=>h.2 x (by simp[hx])⟩
theorem Form.head{t:Tm}{l:List Tm}(h:Form (t::l)):ar (t::l) t.1=t.2:=by
 rw[ar,if_pos rfl,jW fun x hx=>?_]
 ·grind
 ·have:=(List.pairwise_cons.1 h.1).1 x hx;omega
theorem Form.below{t:Tm}{l:List Tm}(h:Form (t::l)){v:Int}(hv:v<t.1):ar (t::l) v=0:=
 jW fun x hx=>by
  rcases List.mem_cons.1 hx with rfl | h1
  ·omega
  ·have:=(List.pairwise_cons.1 h.1).1 x h1;omega
theorem tD:∀ {l m:List Tm},Form l→Form m→(∀v,ar l v=ar m v)→l=m
 | [],[],_,_,_=>rfl
 | [],t::m,_,h2,h=>by
   have:=h t.1;rw[h2.head]at this;exact absurd this.symm (h2.2 t (by simp))
 | t::l,[],h1,_,h=>by
   have:=h t.1;rw[h1.head]at this;exact absurd this (h1.2 t (by simp))
 | t::l,u::m,h1,h2,h=>by
   have e1:t.1=u.1:=by
    rcases Int.lt_trichotomy t.1 u.1 with hlt | he | hgt
    ·have:=h t.1;rw[h1.head,h2.below hlt]at this;exact absurd this (h1.2 t (by simp))
    ·exact he
    ·have:=h u.1;rw[h2.head,h1.below hgt]at this;exact absurd this.symm (h2.2 u (by simp))
   have e2:t.2=u.2:=by
    have:=h t.1;rw[h1.head,e1,h2.head]at this;exact this
   have e3:t=u:=Prod.ext e1 e2;subst e3;rw[tD h1.tail h2.tail fun v=>?_];have:=h v;simp only[ar]at this;grind
theorem vn{l:List Tm}{v:Int}(h:ar l v≠0):∃ t∈l,t.1=v:=by
 induction l with
 | nil=>exact absurd rfl h
 | cons t l ih=>
   by_cases hv:t.1=v
   ·exact⟨t,by simp,hv⟩
   ·rw[ar,if_neg hv]at h;obtain⟨x,hx,he⟩:=ih (fun e=>h (by rw[e];grind));exact⟨x,by simp[hx],he⟩
def mM(p:List Rat)(v:Int):Rat:=if 0≤v then p.getD v.toNat 0 else 0
def cp(p:List Rat):List Tm→Rat
 | []=>0
 | t::l=>t.2*mM p t.1+cp p l
theorem nh{x:Nat}(h0:0<x)(h:x<4294967296):1≤Lib.bitLen x∧Lib.bitLen x≤32∧2^31≤x*2^(32-Lib.bitLen x)∧x*2^(32-Lib.bitLen x)<2^32:=by
 have key:∀ n x:Nat,0<x→x<2^n→n≤64→1≤Lib.bitLen x∧2^(Lib.bitLen x-1)≤x∧x<2^Lib.bitLen x:=by
  intro n
  induction n with
  | zero=>intro x h1 h2 _;simp at h2;omega
  | succ n ih=>
    intro x h1 h2 hn;have h64:x<2^64:=Nat.lt_of_lt_of_le h2 (Nat.pow_le_pow_right (by decide) hn);rw[Lib.bitLen_half x (by omega) h64];by_cases hx:x / 2=0
    ·have:x=1:=by omega
     subst this;decide
    ·obtain⟨i1,i2,i3⟩:=ih (x / 2) (by omega) (by rw[Nat.pow_succ]at h2;omega) (by omega);generalize Lib.bitLen (x / 2)=b at*;refine⟨by omega,?_,?_⟩
     ·rw[show 1+b-1=(b-1)+1 by omega,Nat.pow_succ];omega
     ·rw[Nat.add_comm,Nat.pow_succ];omega
 obtain⟨k1,k2,k3⟩:=key 32 x h0 h (by decide);have k4:=Lib.bitLen_le x 32 (by decide) h;generalize Lib.bitLen x=b at*;refine⟨k1,k4,?_,?_⟩
 ·have:2^(b-1)*2^(32-b)≤x*2^(32-b):=Nat.mul_le_mul_right _ k2;rw[←Nat.pow_add,show b-1+(32-b)=31 by omega]at this;exact this
 ·have:(x+1)*2^(32-b)≤2^b*2^(32-b):=Nat.mul_le_mul_right _ k3;rw[←Nat.pow_add,show b+(32-b)=32 by omega,Nat.add_mul]at this;have:=Nat.pow_pos (n:=32-b) (show 0<2 by decide);omega
theorem zA{B a b r z t1 t0:Nat}(h:a+r=z+t1)(h1:r*B+t0<b):z*B+t1*B+t0<a*B+b:=by
 have h2:(a+r)*B=(z+t1)*B:=by rw[h]
 rw[Nat.add_mul,Nat.add_mul]at h2;omega
theorem uJ{B a b r z t1 t0:Nat}(h:a+r=z+t1)(h1:b≤r*B+t0):a*B+b≤z*B+t1*B+t0:=by
 have h2:(a+r)*B=(z+t1)*B:=by rw[h]
 rw[Nat.add_mul,Nat.add_mul]at h2;omega
structure Gs(U V d t2 t1 g r:Nat):Prop where
 eq:g*d+r=t2*4294967296+t1
 low:U / V≤g
 rest:r<4294967296
structure Kn(U V P d d2 t2 t1 t0:Nat):Prop where
 uv:U<4294967296*V
 v0:0<V
 tu:(t2*4294967296*4294967296+t1*4294967296+t0)*P≤U∧U<(t2*4294967296*4294967296+t1*4294967296+t0+1)*P
 wv:(d*4294967296+d2)*P≤V∧V<(d*4294967296+d2+1)*P
 dd:2147483648≤d∧d<4294967296
 small:d2<4294967296∧t2<4294967296∧t1<4294967296∧t0<4294967296
section
variable {U V P d d2 t2 t1 t0 g r:Nat}
theorem Kn.div_lt(h:Kn U V P d d2 t2 t1 t0):U / V<4294967296:=Nat.div_lt_of_lt_mul (by rw[Nat.mul_comm];exact h.uv)
theorem Kn.top(h:Kn U V P d d2 t2 t1 t0):t2*4294967296+t1≤d*4294967296+4294967295:=by
 have h1:(t2*4294967296*4294967296+t1*4294967296+t0)*P<4294967296*((d*4294967296+d2+1)*P):=
  Nat.lt_of_le_of_lt h.tu.1 (Nat.lt_of_lt_of_le h.uv (Nat.mul_le_mul_left _ (Nat.le_of_lt h.wv.2)))
 rw[←Nat.mul_assoc]at h1;have h2:=Nat.lt_of_mul_lt_mul_right h1;have:=h.small;omega
theorem Kn.start(h:Kn U V P d d2 t2 t1 t0):Gs U V d t2 t1 ((t2*4294967296+t1) / d) ((t2*4294967296+t1) % d):=by
 have hd:0<d:=by have:=h.dd;omega
 have hm:=Nat.mod_lt (t2*4294967296+t1) hd;have he:=Nat.mod_add_div (t2*4294967296+t1) d;have h3:(t2*4294967296+t1) / d*d+(t2*4294967296+t1) % d=t2*4294967296+t1:=by rw[Nat.mul_comm];omega
 refine⟨h3,?_,by have:=h.dd;omega⟩;have h4:U / V<(t2*4294967296+t1) / d+1:=by
  refine sQ h.tu.2 h.wv.1 ?_;rw[Nat.mul_add];have h5:((t2*4294967296+t1) / d+1)*(d*4294967296)=((t2*4294967296+t1) / d*d+d)*4294967296:=by rw[←Nat.mul_assoc,Nat.add_mul,Nat.one_mul]
  rw[h5];have:=h.small;omega
 omega
theorem Kn.Ac(h:Kn U V P d d2 t2 t1 t0)(k:Gs U V d t2 t1 g r):g≤4294967297:=by
 have h1:=h.top;have h2:=k.eq;have h3:=h.dd;rcases Nat.lt_or_ge 4294967297 g with h4 | h4
 ·have h5:4294967298*d≤g*d:=Nat.mul_le_mul_right _ (by omega);omega
 ·exact h4
theorem Kn.F6(h:Kn U V P d d2 t2 t1 t0)(k:Gs U V d t2 t1 g r):g*d2<18446744073709551616:=by
 have h1:=h.Ac k;have h2:=h.small.1;have h3:g*d2≤4294967297*4294967295:=Nat.mul_le_mul h1 (by omega);omega
theorem Kn.less(h:Kn U V P d d2 t2 t1 t0)(k:Gs U V d t2 t1 g r)(hc:4294967296≤g∨r*4294967296+t0<g*d2):1≤g∧(g-1)*d+(r+d)=t2*4294967296+t1∧U / V≤g-1:=by
 have hg:1≤g:=by
  rcases hc with h1 | h1
  ·omega
  ·rcases Nat.eq_zero_or_pos g with h2 | h2
   ·subst h2;simp at h1
   ·exact h2
 refine⟨hg,?_,?_⟩
 ·obtain⟨m,rfl⟩:∃ m,g=m+1:=⟨g-1,by omega⟩
  have:=k.eq;rw[Nat.add_mul]at this;rw[Nat.add_sub_cancel];omega
 ·rcases hc with h1 | h1
  ·have:=h.div_lt;omega
  ·have h4:U / V<g:=by
    refine sQ h.tu.2 h.wv.1 ?_;rw[Nat.mul_add,←Nat.mul_assoc];exact zA k.eq h1
   omega
theorem Kn.next(h:Kn U V P d d2 t2 t1 t0)(k:Gs U V d t2 t1 g r)(hc:4294967296≤g∨r*4294967296+t0<g*d2)(hr:r+d<4294967296):Gs U V d t2 t1 (g-1) (r+d):=
 ⟨(h.less k hc).2.1,(h.less k hc).2.2,hr⟩
theorem Kn.AN(h:Kn U V P d d2 t2 t1 t0)(hg:g<4294967296):g≤d*4294967296+d2+1:=by have:=h.dd;omega
theorem Kn.F5(h:Kn U V P d d2 t2 t1 t0)(k:Gs U V d t2 t1 g r)(hc:4294967296≤g∨r*4294967296+t0<g*d2)(hr:4294967296≤r+d):U / V≤g-1∧g-1≤U / V+1∧g-1<4294967296:=by
 obtain⟨h1,h2,h3⟩:=h.less k hc;have h4:=h.top;have h5:=h.dd;have h6:g-1<4294967296:=by
  rcases Nat.lt_or_ge (g-1) 4294967296 with h7 | h7
  ·exact h7
  ·have h8:4294967296*d≤(g-1)*d:=Nat.mul_le_mul_right _ h7;omega
 refine⟨h3,?_,h6⟩;refine uA h.tu.1 h.wv.2 ?_ (h.AN h6) h.v0;rw[Nat.mul_add,←Nat.mul_assoc];have h9:(g-1)*d2≤4294967296*4294967296:=Nat.mul_le_mul (by omega) (by have:=h.small;omega);exact uJ h2 (Nat.le_trans h9 (Nat.le_trans (Nat.mul_le_mul_right _ hr) (Nat.le_add_right _ _)))
theorem Kn.FD(h:Kn U V P d d2 t2 t1 t0)(k:Gs U V d t2 t1 g r)(hg:g<4294967296)(hc:g*d2≤r*4294967296+t0):U / V≤g∧g≤U / V+1∧g<4294967296:=by
 refine⟨k.low,?_,hg⟩;refine uA h.tu.1 h.wv.2 ?_ (h.AN hg) h.v0;rw[Nat.mul_add,←Nat.mul_assoc];exact uJ k.eq hc
end
theorem w9{U V G X M:Nat}(hV:0<V)(h1:G≤U / V+1)(hlt:U<G*V)(hx:X+G*V=U+M)(hM:V≤M):G=U / V+1∧(X+V) % M=U % V:=by
 have h2:G=U / V+1:=by
  rcases Nat.lt_or_ge (U / V) G with h3 | h3
  ·omega
  ·have:=Nat.mul_le_mul_right V h3;have:=Nat.div_mul_le_self U V;omega
 refine⟨h2,?_⟩;have h4:=Nat.mod_add_div U V;have h5:=Nat.mod_lt U hV;subst h2;rw[Nat.add_mul,Nat.one_mul,Nat.mul_comm (U / V)]at hx;rw[show X+V=U % V+M by omega,Nat.add_mod_right,Nat.mod_eq_of_lt (by omega)]
theorem wK{U V G X:Nat}(_hV:0<V)(h0:U / V≤G)(hx:X+G*V=U):G=U / V∧X=U % V:=by
 have h1:G≤U / V:=by rw[Nat.le_div_iff_mul_le _hV];omega
 have h2:G=U / V:=by omega
 have h4:=Nat.mod_add_div U V;rw[h2,Nat.mul_comm]at hx;exact⟨h2,by omega⟩
theorem rD{ul:List Nat}{V R k n:Nat}(hR:aa 4294967296 (ul.drop k)=R)(hRV:R<V)(hV:V≤4294967296^n)(hn:k+n≤ul.length):aa 4294967296 (ul.drop (k+n))=0:=by
 have h1:=dK (B:=4294967296) (l:=ul.drop k) n (by rw[List.length_drop];omega);rw[List.drop_drop,hR]at h1;rcases Nat.eq_zero_or_pos (aa 4294967296 (ul.drop (k+n)))with h2 | h2
 ·exact h2
 ·have:=Nat.le_mul_of_pos_right (4294967296^n) h2;omega
theorem sV{ul:List Nat}{j i:Nat}(hn:j+i≤ul.length)(hz:aa 4294967296 (ul.drop (j+i))=0):dq ul j i=aa 4294967296 (ul.drop j):=by
 have h1:=dK (B:=4294967296) (l:=ul.drop j) i (by rw[List.length_drop];omega);rw[List.drop_drop,hz,Nat.mul_zero,Nat.add_zero]at h1;exact h1.symm
theorem D3{ul vl:List Nat}{V R j n:Nat}(hu:Dg 4294967296 ul)(hv:Dg 4294967296 vl)(hn:vl.length=n+2)(hV:aa 4294967296 vl=V)(htop:2147483648*4294967296^(n+1)≤V)(hlen:j+n+3≤ul.length)
  (hR:aa 4294967296 (ul.drop (j+1))=R) (hRV:R<V) (h1:n+1<vl.length) (h2:n<vl.length) (h3:j+(n+2)<ul.length) (h4:j+(n+1)<ul.length) (h5:j+n<ul.length):
  Kn (dq ul j (n+3)) V (4294967296^n) vl[n+1] vl[n] ul[j+(n+2)] ul[j+(n+1)] ul[j+n]∧dq ul j (n+3)=ul[j]+4294967296*R∧aa 4294967296 (ul.drop (j+(n+3)))=0:=by
 have hVl:V<4294967296^(n+2):=by rw[←hV,←hn];exact cg hv
 have hz:aa 4294967296 (ul.drop (j+(n+3)))=0:=by
  have:=rD hR hRV (Nat.le_of_lt hVl) (by omega);rw[show j+1+(n+2)=j+(n+3)by omega]at this;exact this
 have hw:dq ul j (n+3)=ul[j]+4294967296*R:=by
  rw[sV (by omega) hz,fU (by omega),hR]
 have hv2:V=aa 4294967296 (vl.take n)+4294967296^n*(vl[n+1]*4294967296+vl[n]):=by
  rw[←hV]
  conv=>lhs;rw[←List.take_of_length_le (l:=vl) (i:=n+2) (by omega)]
  rw[aL (by omega:n+1<vl.length),aL (by omega:n<vl.length),Nat.pow_succ,Nat.mul_add,Nat.mul_assoc,Nat.mul_comm 4294967296 vl[n+1]];omega
 have hvl:=cg (hv.take n);rw[List.length_take,Nat.min_eq_left (by omega)]at hvl;have hu2:dq ul j (n+3)=dq ul j n+4294967296^n*(ul[j+(n+2)]*4294967296*4294967296+ul[j+(n+1)]*4294967296+ul[j+n]):=by
  rw[fZ (i:=n+2) (by omega),fZ (i:=n+1) (by omega),fZ (i:=n) (by omega)];have e1:(4294967296:Nat)^(n+1)=4294967296^n*4294967296:=by rw[Nat.pow_succ]
  have e2:(4294967296:Nat)^(n+2)=4294967296^n*4294967296*4294967296:=by rw[Nat.pow_succ,e1]
  rw[e1,e2];generalize 4294967296^n=P;rw[Nat.mul_add P,Nat.mul_add P,Nat.mul_assoc P 4294967296,Nat.mul_assoc P 4294967296,Nat.mul_assoc P (4294967296*4294967296)];rw[Nat.mul_comm 4294967296 ul[j+(n+1)],Nat.mul_comm (4294967296*4294967296) ul[j+(n+2)],←Nat.mul_assoc ul[j+(n+2)]];omega
 have hul:=qg hu j n;refine⟨⟨?_,by omega,?_,?_,⟨?_,hv _ (List.getElem_mem _)⟩,hv _ (List.getElem_mem _),hu _ (List.getElem_mem _),hu _ (List.getElem_mem _),hu _ (List.getElem_mem _)⟩,hw,hz⟩
 ·rw[hw];have:=hu ul[j] (List.getElem_mem _);omega
 ·rw[hu2,Nat.mul_comm (4294967296^n),Nat.add_mul (_+_+_) 1,Nat.one_mul];omega
 ·rw[hv2,Nat.mul_comm (4294967296^n),Nat.add_mul (_+_) 1,Nat.one_mul];omega
 ·
  rcases Nat.lt_or_ge vl[n+1] 2147483648 with h6 | h6
  ·exfalso;have h7:V<2147483648*4294967296^(n+1):=by
    rw[hv2,Nat.pow_succ];have h8:=hv vl[n] (List.getElem_mem _);have h9:4294967296^n*(vl[n+1]*4294967296+vl[n]+1)≤4294967296^n*(2147483648*4294967296):=Nat.mul_le_mul_left _ (by omega);rw[Nat.mul_add (4294967296^n) _ 1]at h9;have h10:2147483648*(4294967296^n*4294967296)=4294967296^n*(2147483648*4294967296):=by
     rw[←Nat.mul_assoc,Nat.mul_comm 2147483648,Nat.mul_assoc]
    omega
   omega
  ·exact h6
theorem yy{A V R X j:Nat}{ul ul' ql ql':List Nat}(hA:A=aa 4294967296 (ul.take (j+1))+4294967296^(j+1)*(aa 4294967296 (ql.drop (j+1))*V+R))(hj:j<ul.length)(hU:X=ul[j]+4294967296*R)
  (ht:ul'.take j=ul.take j) (hq:aa 4294967296 (ql'.drop j)=X / V+4294967296*aa 4294967296 (ql.drop (j+1))):
  A=aa 4294967296 (ul'.take j)+4294967296^j*(aa 4294967296 (ql'.drop j)*V+X % V):=by
 rw[ht,hq,hA,aL hj,Nat.pow_succ];have h1:(X / V+4294967296*aa 4294967296 (ql.drop (j+1)))*V+X % V=X+4294967296*(aa 4294967296 (ql.drop (j+1))*V):=by
  rw[Nat.add_mul,Nat.mul_assoc];have:=Nat.mod_add_div X V;rw[Nat.mul_comm]at this;omega
 rw[h1,hU];generalize 4294967296^j=P;rw[Nat.mul_assoc P,Nat.mul_add 4294967296,Nat.mul_add P,Nat.mul_add P,Nat.mul_add P];omega
def E8(w:Nat):List Nat:=[w % 256,w / 256 % 256,w / 65536 % 256,w / 16777216 % 256]
