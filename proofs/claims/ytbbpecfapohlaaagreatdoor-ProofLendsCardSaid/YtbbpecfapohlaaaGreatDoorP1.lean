import Derived.ProofKit
import Derived.Laws.Bits64b
import Derived.Lib.BitFns
namespace Go.Proofs.YtbbpecfapohlaaaGreatDoor
theorem getD_in{α:Type}(l:List α)(d:α){i:Nat}(h:i<l.length):l.getD i d=l[i]:=by simp[List.getD,List.getElem?_eq_getElem h]
theorem getD_out{α:Type}(l:List α)(d:α){i:Nat}(h:l.length≤i):l.getD i d=d:=by simp[List.getD,List.getElem?_eq_none h]
def dval(B:Nat):List Nat→Nat
 | []=>0
 | x::l=>x+B*dval B l
def Dg(B:Nat)(l:List Nat):Prop:=∀ x∈l,x<B
def cutz:List Nat→List Nat
 | []=>[]
 | x::l=>match cutz l with
   | []=>if x=0 then []else [x]
   | y::m=>x::y::m
def Nrm(l:List Nat):Prop:=l.getLast?≠some 0
section
variable {B:Nat}{l m:List Nat}
@[simp] theorem dval_nil:dval B []=0:=rfl
theorem dval_cons(x:Nat):dval B (x::l)=x+B*dval B l:=rfl
theorem dval_append(l m:List Nat):dval B (l++m)=dval B l+B^l.length*dval B m:=by
 induction l with
 | nil=>simp
 | cons x l ih=>
   simp only[List.cons_append,dval_cons,ih,List.length_cons,Nat.pow_succ,Nat.mul_add];rw[Nat.mul_comm (B^l.length) B,Nat.mul_assoc];omega
theorem dval_concat(l:List Nat)(x:Nat):dval B (l++[x])=dval B l+B^l.length*x:=by
 rw[dval_append];simp[dval_cons]
theorem dval_zeros(n:Nat):dval B (List.replicate n 0)=0:=by
 induction n with
 | zero=>rfl
 | succ n ih=>simp[List.replicate_succ,dval_cons,ih]
theorem dval_lt(h:Dg B l):dval B l<B^l.length:=by
 induction l with
 | nil=>simp
 | cons x l ih=>
   have h1:=ih fun y hy=>h y (by simp[hy]);have h2:x<B:=h x (by simp);simp only[dval_cons,List.length_cons,Nat.pow_succ];have h3:B*(dval B l+1)≤B*B^l.length:=Nat.mul_le_mul_left _ h1;rw[Nat.mul_add]at h3;rw[Nat.mul_comm (B^l.length) B];omega
theorem dval_take_succ{i:Nat}(h:i<l.length):dval B (l.take (i+1))=dval B (l.take i)+B^i*l[i]:=by
 rw[List.take_succ_eq_append_getElem h,dval_concat,List.length_take,Nat.min_eq_left (by omega)]
theorem dval_drop{i:Nat}(h:i<l.length):dval B (l.drop i)=l[i]+B*dval B (l.drop (i+1)):=by
 rw[List.drop_eq_getElem_cons h,dval_cons]
theorem dval_split(i:Nat)(h:i≤l.length):dval B l=dval B (l.take i)+B^i*dval B (l.drop i):=by
 conv=>lhs;rw[←List.take_append_drop i l]
 rw[dval_append,List.length_take,Nat.min_eq_left h]
theorem Dg.take(h:Dg B l)(i:Nat):Dg B (l.take i):=fun x hx=>h x (List.mem_of_mem_take hx)
theorem Dg.drop(h:Dg B l)(i:Nat):Dg B (l.drop i):=fun x hx=>h x (List.mem_of_mem_drop hx)
theorem Dg.app(h:Dg B l)(k:Dg B m):Dg B (l++m):=fun x hx=>by
 rcases List.mem_append.1 hx with h1 | h1
 ·exact h x h1
 ·exact k x h1
theorem Dg.get(h:Dg B l){i:Nat}(hi:i<l.length):l[i]<B:=h _ (List.getElem_mem hi)
theorem Dg.nil:Dg B []:=fun _ h=>by simp at h
theorem cutz_val(l:List Nat):dval B (cutz l)=dval B l:=by
 induction l with
 | nil=>rfl
 | cons x l ih=>
   simp only[cutz,dval_cons];rw[←ih];cases cutz l with
   | nil=>by_cases h:x=0<;>simp[h,dval_cons]
   | cons y m=>rfl
theorem cutz_nrm(l:List Nat):Nrm (cutz l):=by
 induction l with
 | nil=>simp[cutz,Nrm]
 | cons x l ih=>
   unfold Nrm at*;simp only[cutz];cases h:cutz l with
   | nil=>by_cases hx:x=0<;>simp[hx]
   | cons y m=>rw[h]at ih;simpa[List.getLast?_cons_cons] using ih
theorem cutz_concat0(l:List Nat):cutz (l++[0])=cutz l:=by
 induction l with
 | nil=>rfl
 | cons x l ih=>simp only[List.cons_append,cutz,ih]
theorem cutz_concat(l:List Nat){x:Nat}(h:x≠0):cutz (l++[x])=l++[x]:=by
 induction l with
 | nil=>simp[cutz,h]
 | cons y l ih=>
   simp only[List.cons_append,cutz,ih];cases l<;>rfl
theorem cutz_prefix(l:List Nat):cutz l <+: l:=by
 induction l with
 | nil=>simp[cutz]
 | cons x l ih=>
   simp only[cutz];cases h:cutz l with
   | nil=>by_cases hx:x=0<;>simp[hx]
   | cons y m=>rw[h]at ih;simpa[List.cons_prefix_cons] using ih
theorem cutz_len(l:List Nat):(cutz l).length≤l.length:=(cutz_prefix l).length_le
theorem cutz_dg(h:Dg B l):Dg B (cutz l):=fun x hx=>h x ((cutz_prefix l).subset hx)
theorem Nrm.tail{x:Nat}(h:Nrm (x::l)):Nrm l:=by
 unfold Nrm at*;cases l with
 | nil=>simp
 | cons y m=>rwa[List.getLast?_cons_cons]at h
theorem nrm_zero(hB:0<B)(h:Nrm l)(h0:dval B l=0):l=[]:=by
 induction l with
 | nil=>rfl
 | cons x l ih=>
   simp only[dval_cons]at h0;have h1:dval B l=0:=by
    have:B*dval B l=0:=by omega
    rcases Nat.mul_eq_zero.1 this with h | h
    ·omega
    ·exact h
   have h2:=ih h.tail h1;subst h2;exfalso;apply h;have:x=0:=by omega
   simp[this]
theorem nrm_inj(hB:0<B):∀ {l m:List Nat},Dg B l→Dg B m→Nrm l→Nrm m→dval B l=dval B m→l=m
 | [],m,_,_,_,h2,h=>by rw[nrm_zero hB h2 h.symm]
 | x::l,[],_,_,h1,_,h=>by rw[nrm_zero hB h1 h]
 | x::l,y::m,d1,d2,h1,h2,h=>by
   simp only[dval_cons]at h;have hx:=d1 x (by simp);have hy:=d2 y (by simp);have e1:x=y:=by
    have:=congrArg (· % B) h;simp only[Nat.add_mul_mod_self_left]at this;rwa[Nat.mod_eq_of_lt hx,Nat.mod_eq_of_lt hy]at this
   subst e1;have e2:dval B l=dval B m:=Nat.eq_of_mul_eq_mul_left hB (by omega);rw[nrm_inj hB (fun z hz=>d1 z (by simp[hz])) (fun z hz=>d2 z (by simp[hz])) h1.tail h2.tail e2]
theorem nrm_le(_hB:0<B)(h:Nrm l)(h0:0<l.length):B^(l.length-1)≤dval B l:=by
 rcases List.eq_nil_or_concat l with rfl | ⟨m,x,rfl⟩
 ·simp at h0
 ·rw[List.concat_eq_append]at h h0 ⊢;have hx:x≠0:=fun hx=>h (by simp[hx]);rw[dval_concat];simp only[List.length_append,List.length_cons,List.length_nil,Nat.zero_add,Nat.add_sub_cancel];have:=Nat.le_mul_of_pos_right (B^m.length) (Nat.pos_of_ne_zero hx);omega
theorem nrm_len(hB:1<B)(h:Nrm l){k:Nat}(hk:dval B l<B^k):l.length≤k:=by
 rcases Nat.lt_or_ge k l.length with h1 | h1
 ·have h2:=nrm_le (by omega:0<B) h (by omega);have h3:B^k≤B^(l.length-1):=Nat.pow_le_pow_right (by omega) (by omega);omega
 ·exact h1
theorem nrm_lt_len(hB:1<B)(d:Dg B l)(h:Nrm m)(hl:l.length<m.length):dval B l<dval B m:=by
 have h1:=dval_lt d;have h2:=nrm_le (by omega:0<B) h (by omega);have h3:B^l.length≤B^(m.length-1):=Nat.pow_le_pow_right (by omega) (by omega);omega
end
def digs(B n:Nat):List Nat:=if _h:n=0∨B<2 then []else n % B::digs B (n / B)
termination_by n
decreasing_by exact Nat.div_lt_self (by omega) (by omega)
theorem digs_zero(B:Nat):digs B 0=[]:=by rw[digs];simp
theorem digs_pos{B n:Nat}(hB:1<B)(hn:n≠0):digs B n=n % B::digs B (n / B):=by rw[digs,dif_neg (by omega)]
theorem digs_val{B:Nat}(hB:1<B)(n:Nat):dval B (digs B n)=n:=by
 induction n using Nat.strongRecOn with
 | _ n ih=>
   by_cases h:n=0
   ·subst h;rw[digs_zero];rfl
   ·rw[digs_pos hB h,dval_cons,ih _ (Nat.div_lt_self (by omega) hB)];exact Nat.mod_add_div n B
theorem digs_dg{B:Nat}(hB:1<B)(n:Nat):Dg B (digs B n):=by
 induction n using Nat.strongRecOn with
 | _ n ih=>
   by_cases h:n=0
   ·subst h;rw[digs_zero];exact Dg.nil
   ·rw[digs_pos hB h];intro x hx;rcases List.mem_cons.1 hx with rfl | h1
    ·exact Nat.mod_lt _ (by omega)
    ·exact ih _ (Nat.div_lt_self (by omega) hB) x h1
theorem digs_nrm{B:Nat}(hB:1<B)(n:Nat):Nrm (digs B n):=by
 induction n using Nat.strongRecOn with
 | _ n ih=>
   by_cases h:n=0
   ·subst h;rw[digs_zero];simp[Nrm]
   ·rw[digs_pos hB h];have h1:=ih _ (Nat.div_lt_self (by omega) hB);unfold Nrm at*;cases e:digs B (n / B)with
    | nil=>
      have h2:=digs_val hB (n / B);rw[e]at h2;simp only[dval_nil]at h2;have h3:=Nat.mod_add_div n B;rw[←h2]at h3;simp;omega
    | cons y m=>rw[e]at h1;simpa[List.getLast?_cons_cons] using h1
theorem digs_of{B:Nat}(hB:1<B){l:List Nat}(d:Dg B l)(h:Nrm l):digs B (dval B l)=l:=
 nrm_inj (by omega) (digs_dg hB _) d (digs_nrm hB _) h (digs_val hB _)
theorem cutz_digs{B:Nat}(hB:1<B){l:List Nat}(d:Dg B l):cutz l=digs B (dval B l):=by
 rw[←digs_of hB (cutz_dg d) (cutz_nrm l),cutz_val]
theorem digs_len{B n k:Nat}(hB:1<B)(h:n<B^k):(digs B n).length≤k:=nrm_len hB (digs_nrm hB n) (by rwa[digs_val hB])
theorem digs_eq_nil{B n:Nat}(hB:1<B):digs B n=[]↔n=0:=by
 constructor
 ·intro h;rw[←digs_val hB n,h];rfl
 ·rintro rfl;exact digs_zero B
theorem digs_len_mono{B n m:Nat}(hB:1<B)(h:n≤m):(digs B n).length≤(digs B m).length:=by
 refine digs_len hB (Nat.lt_of_le_of_lt h ?_);have:=dval_lt (digs_dg hB m);rwa[digs_val hB]at this
theorem digs_inj{B n m:Nat}(hB:1<B)(h:digs B n=digs B m):n=m:=by rw[←digs_val hB n,h,digs_val hB]
theorem top_lt{B:Nat}{l m:List Nat}(hl:Dg B l)(i:Nat)(hi:i<l.length)(hm:i<m.length)(hlm:l.length=m.length)(he:l.drop (i+1)=m.drop (i+1))(h:l[i]<m[i]):dval B l<dval B m:=by
 rw[dval_split (B:=B) (l:=l) i (by omega),dval_split (B:=B) (l:=m) i (by omega),dval_drop hi,dval_drop hm,he];have h1:=dval_lt (hl.take i);rw[List.length_take,Nat.min_eq_left (by omega)]at h1;have h2:B^i*(l[i]+1)≤B^i*m[i]:=Nat.mul_le_mul_left _ h;rw[Nat.mul_add]at h2 ⊢;rw[Nat.mul_add];omega
def cmpN(a b:Nat):Int:=if a<b then-1 else if b<a then 1 else 0
theorem cmpN_lt{a b:Nat}(h:a<b):cmpN a b= -1:=by unfold cmpN;rw[if_pos h]
theorem cmpN_gt{a b:Nat}(h:b<a):cmpN a b=1:=by unfold cmpN;rw[if_neg (by omega),if_pos h]
theorem cmpN_eq(a:Nat):cmpN a a=0:=by unfold cmpN;rw[if_neg (by omega),if_neg (by omega)]
def bnat(b:List Bool):List Nat:=b.map Bool.toNat
def bval(b:List Bool):Nat:=dval 2 (bnat b)
def bits(n:Nat):List Bool:=(digs 2 n).map (· ==1)
def NrmB(b:List Bool):Prop:=b.getLast?≠some false
theorem bnat_dg(b:List Bool):Dg 2 (bnat b):=by
 intro x hx;obtain⟨c,_,rfl⟩:=List.mem_map.1 hx;cases c<;>decide
theorem bnat_len(b:List Bool):(bnat b).length=b.length:=by simp[bnat]
theorem bnat_bits(n:Nat):bnat (bits n)=digs 2 n:=by
 unfold bnat bits;rw[List.map_map];have h:=digs_dg (B:=2) (by decide) n;generalize digs 2 n=l at h
 induction l with
 | nil=>rfl
 | cons x l ih=>
   rw[List.map_cons,ih fun y hy=>h y (by simp[hy])];have:=h x (by simp);rcases (by omega:x=0∨x=1)with rfl | rfl<;>rfl
theorem bnat_inj{a b:List Bool}(h:bnat a=bnat b):a=b:=by
 unfold bnat at h;exact List.map_inj_right (fun x y hxy=>by cases x<;>cases y<;>simp_all)|>.1 h
theorem nrm_bnat{b:List Bool}(h:NrmB b):Nrm (bnat b):=by
 unfold Nrm NrmB bnat at*;rw[List.getLast?_map];intro h1;obtain⟨c,hc,h2⟩:=Option.map_eq_some_iff.1 h1;cases c with
 | false=>exact h hc
 | true=>simp at h2
theorem bits_val(n:Nat):bval (bits n)=n:=by unfold bval;rw[bnat_bits,digs_val (by decide)]
theorem bits_of{b:List Bool}(h:NrmB b):bits (bval b)=b:=by
 apply bnat_inj;rw[bnat_bits];exact digs_of (by decide) (bnat_dg b) (nrm_bnat h)
theorem bits_len(n:Nat):(bits n).length=(digs 2 n).length:=by simp[bits]
theorem bits_eq_nil{n:Nat}:bits n=[]↔n=0:=by simp[bits,digs_eq_nil]
theorem bits_inj{n m:Nat}(h:bits n=bits m):n=m:=by rw[←bits_val n,h,bits_val]
theorem bval_lt(b:List Bool):bval b<2^b.length:=by
 have:=dval_lt (bnat_dg b);rwa[bnat_len]at this
theorem bval_concat(l:List Bool)(x:Bool):bval (l++[x])=bval l+2^l.length*x.toNat:=by
 unfold bval bnat;rw[List.map_append,List.map_cons,List.map_nil,dval_concat,List.length_map]
theorem bval_cons(x:Bool)(l:List Bool):bval (x::l)=x.toNat+2*bval l:=rfl
theorem bval_append(l m:List Bool):bval (l++m)=bval l+2^l.length*bval m:=by
 unfold bval bnat;rw[List.map_append,dval_append,List.length_map]
section
variable {B:Nat}{l m:List Nat}
theorem mul_mod_div(P B t:Nat):P*(t % B)+P*B*(t / B)=P*t:=by
 rw[Nat.mul_assoc,←Nat.mul_add,Nat.mod_add_div]
theorem dval_take_succ'(l:List Nat)(i:Nat):dval B (l.take (i+1))=dval B (l.take i)+B^i*l.getD i 0:=by
 by_cases h:i<l.length
 ·rw[dval_take_succ h,getD_in _ _ h]
 ·rw[List.take_of_length_le (by omega),List.take_of_length_le (by omega),getD_out _ _ (by omega)];simp
theorem dval_set{i y:Nat}(h:i<l.length):dval B (l.set i y)+B^i*l[i]=dval B l+B^i*y:=by
 have h1:=dval_split (B:=B) (l:=l) (i+1) (by omega);have h2:=dval_split (B:=B) (l:=l.set i y) (i+1) (by simp;omega);rw[dval_take_succ h]at h1;rw[dval_take_succ (by simpa using h)]at h2;rw[List.take_set_of_le (Nat.le_refl _),List.drop_set_of_lt (by omega),List.getElem_set_self]at h2;omega
theorem Dg.set{i y:Nat}(h:Dg B l)(hy:y<B):Dg B (l.set i y):=fun x hx=>by
 rcases List.mem_or_eq_of_mem_set hx with h1 | h1
 ·exact h x h1
 ·omega
theorem Dg.getD(hB:0<B)(h:Dg B l)(i:Nat):l.getD i 0<B:=by
 by_cases hi:i<l.length
 ·rw[getD_in _ _ hi];exact h.get hi
 ·rw[getD_out _ _ (by omega)];exact hB
theorem add_step{a b o:List Nat}{i c:Nat}(ho:o.length=i)(h:dval B o+B^i*c=dval B (a.take i)+dval B (b.take i)):
  dval B (o++[(c+a.getD i 0+b.getD i 0) % B])+B^(i+1)*((c+a.getD i 0+b.getD i 0) / B)=dval B (a.take (i+1))+dval B (b.take (i+1)):=by
 rw[dval_concat,ho,dval_take_succ',dval_take_succ',Nat.pow_succ];have:=mul_mod_div (B^i) B (c+a.getD i 0+b.getD i 0);rw[Nat.mul_add,Nat.mul_add]at this;omega
theorem carry_le{B c x y:Nat}(hc:c≤1)(hx:x<B)(hy:y<B):(c+x+y) / B≤1:=by
 have:(c+x+y) / B<2:=Nat.div_lt_of_lt_mul (by omega);omega
theorem sub_step{a b o:List Nat}{i:Nat}{w:Nat}{d:Int}(ho:i<o.length)(hw:w≤1)(ha:a.getD i 0<B)(hb:b.getD i 0<B)
  (hd:d=(a.getD i 0:Int)-w-b.getD i 0) (h:dval B (o.take i)+dval B (b.take i)=dval B (a.take i)+B^i*w):
  dval B ((o.set i (d % B).toNat).take (i+1))+dval B (b.take (i+1))=dval B (a.take (i+1))+B^(i+1)*(if d<0 then 1 else 0):=by
 rw[dval_take_succ',dval_take_succ',dval_take_succ',List.take_set_of_le (Nat.le_refl _),getD_in _ _ (by simpa using ho),List.getElem_set_self,Nat.pow_succ];have key:(d % B).toNat+b.getD i 0+w=a.getD i 0+B*(if d<0 then 1 else 0):=by
  generalize a.getD i 0=x at*;generalize b.getD i 0=y at*;by_cases hn:d<0
  ·rw[if_pos hn];have:d % B=d+B:=by
    rw[←Int.add_emod_right,Int.emod_eq_of_lt (by omega) (by omega)]
   omega
  ·rw[if_neg hn];have:d % B=d:=Int.emod_eq_of_lt (by omega) (by omega);omega
 have:=congrArg (B^i* ·) key;simp only[Nat.mul_add]at this;rw[Nat.mul_assoc];omega
theorem mul_step{D D' P S c x y z:Nat}(h:D+P*c=S)(hs:D'+P*z=D+P*((c+(x*y+z)) % B)):D'+P*B*((c+(x*y+z)) / B)=S+P*(x*y):=by
 have:=mul_mod_div P B (c+(x*y+z));simp only[Nat.mul_add]at this;omega
theorem mul_fits{B c x y z:Nat}(hc:c<B)(hx:x<B)(hy:y<B)(hz:z<B):c+(x*y+z)<B*B:=by
 have h1:x*y≤(B-1)*(B-1):=Nat.mul_le_mul (by omega) (by omega);obtain⟨k,rfl⟩:∃ k,B=k+1:=⟨B-1,by omega⟩
 simp only[Nat.add_sub_cancel]at h1;have:(k+1)*(k+1)=k*k+k+k+1:=by rw[Nat.add_mul,Nat.mul_add];omega
 omega
theorem divw_step{a q w r x:Nat}(h:a=q*w+r):x+B*a=((r*B+x) / w+B*q)*w+(r*B+x) % w:=by
 have h1:=Nat.mod_add_div (r*B+x) w;rw[Nat.add_mul,h,Nat.mul_add,Nat.mul_comm ((r*B+x) / w) w,Nat.mul_assoc,Nat.mul_comm B r];omega
theorem divw_lt{w r x:Nat}(hr:r<w)(hx:x<B):(r*B+x) / w<B:=by
 apply Nat.div_lt_of_lt_mul;have:(r+1)*B≤w*B:=Nat.mul_le_mul_right _ hr;rw[Nat.add_mul]at this;omega
theorem guess_ge{U V T W g:Nat}{P:Nat}(hU:U<(T+1)*P)(hV:W*P≤V)(h:T<g*W):U / V<g:=by
 apply Nat.div_lt_of_lt_mul;have h1:(T+1)*P≤g*W*P:=Nat.mul_le_mul_right _ h;have h2:g*(W*P)≤g*V:=Nat.mul_le_mul_left _ hV;rw[Nat.mul_assoc]at h1;rw[Nat.mul_comm V g];omega
theorem guess_le{U V T W g:Nat}{P:Nat}(hU:T*P≤U)(hV:V<(W+1)*P)(h:g*W≤T)(hg:g≤W+1)(hV0:0<V):g≤U / V+1:=by
 rcases Nat.lt_or_ge (U / V+1) g with h1 | h1
 ·exfalso;have h2:U<(U / V+1)*V:=by
   have h3:=Nat.mod_add_div U V;have h4:=Nat.mod_lt U hV0;rw[Nat.add_mul,Nat.mul_comm (U / V) V];omega
  have h3:(U / V+1)*V≤(g-1)*V:=Nat.mul_le_mul_right _ (by omega);have h4:(g-1)*(V+1)≤(g-1)*((W+1)*P):=Nat.mul_le_mul_left _ hV;have h5:g*W*P≤T*P:=Nat.mul_le_mul_right _ h;have h6:(g-1)*(W+1)*P≤g*W*P:=by
   refine Nat.mul_le_mul_right _ ?_;have hg1:1≤g:=Nat.lt_of_le_of_lt (Nat.zero_le _) h1;obtain⟨k,rfl⟩:∃ k,g=k+1:=⟨g-1,by clear h1 h2 h3 h4 h5;omega⟩
   simp only[Nat.add_sub_cancel,Nat.mul_add,Nat.add_mul,Nat.mul_one,Nat.one_mul];omega
  rw[Nat.mul_add]at h4;rw[Nat.mul_assoc]at h6;omega
 ·exact h1
theorem take_step{B P u v S x g w owed:Nat}(hB:0<B)(h:u+g*v=S+P*owed)(hx:x<B):
  (u+P*((x+B-(g*w+owed) % B) % B))+g*(v+P*w)=(S+P*x)+P*B*((g*w+owed) / B+(if x<(g*w+owed) % B then 1 else 0)):=by
 have h1:=mul_mod_div P B (g*w+owed);have h2:(g*w+owed) % B<B:=Nat.mod_lt _ hB;have h3:P*((x+B-(g*w+owed) % B) % B)+P*((g*w+owed) % B)=P*x+P*B*(if x<(g*w+owed) % B then 1 else 0):=by
  rw[←Nat.mul_add,Nat.mul_assoc P B,←Nat.mul_add]
  congr 1
  by_cases hlt:x<(g*w+owed) % B
  ·rw[if_pos hlt,Nat.mod_eq_of_lt (by omega)];omega
  ·rw[if_neg hlt,show x+B-(g*w+owed) % B=(x-(g*w+owed) % B)+B by omega,Nat.add_mod_right,Nat.mod_eq_of_lt (by omega)];omega
 simp only[Nat.mul_add]at h1 ⊢;have e:g*(P*w)=P*(g*w):=by rw[←Nat.mul_assoc,Nat.mul_comm g P,Nat.mul_assoc]
 rw[e];omega
theorem owed_le{P u v S g owed:Nat}(h:u+g*v=S+P*owed)(hu:u<P)(hv:v<P):owed≤g:=by
 rcases Nat.lt_or_ge g owed with h1 | h1
 ·exfalso;have h2:P*(g+1)≤P*owed:=Nat.mul_le_mul_left _ h1;have h3:g*v≤g*P:=Nat.mul_le_mul_left _ (by omega);rw[Nat.mul_add,Nat.mul_comm P g]at h2;omega
 ·exact h1
theorem take_last{B P u V S g owed last:Nat}(hB:0<B)(h:u+g*V=S+P*owed)(hu:u<P)(ho:owed≤B)(hl:last<B):
  (last<owed→S+P*last<g*V∧(u+P*((last+B-owed % B) % B))+g*V=S+P*last+P*B)∧
  (¬last<owed→(u+P*((last+B-owed % B) % B))+g*V=S+P*last):=by
 constructor
 ·intro hlt;have e:(last+B-owed % B) % B=last+B-owed:=by
   by_cases hb:owed=B
   ·subst hb;simp[Nat.mod_self,Nat.mod_eq_of_lt hl]
   ·rw[Nat.mod_eq_of_lt (by omega:owed<B),Nat.mod_eq_of_lt (by omega)]
  have h1:P*(last+1)≤P*owed:=Nat.mul_le_mul_left _ hlt;have h2:P*(last+B-owed)+P*owed=P*last+P*B:=by rw[←Nat.mul_add,←Nat.mul_add];congr 1;omega
  rw[e];rw[Nat.mul_add]at h1;constructor<;>omega
 ·intro hlt;have e:(last+B-owed % B) % B=last-owed:=by
   rw[Nat.mod_eq_of_lt (by omega:owed<B),show last+B-owed=(last-owed)+B by omega,Nat.add_mod_right,Nat.mod_eq_of_lt (by omega)]
  have h2:P*(last-owed)+P*owed=P*last:=by rw[←Nat.mul_add];congr 1;omega
  rw[e];omega
theorem give_step{B P u v S x w c:Nat}(h:u+P*c=S+v):(u+P*((c+(x+w)) % B))+P*B*((c+(x+w)) / B)=(S+P*x)+(v+P*w):=by
 have:=mul_mod_div P B (c+(x+w));simp only[Nat.mul_add]at this;omega
end
def limbs(n:Nat):List Nat:=digs 4294967296 n
section
variable {B:Nat}{l m:List Nat}
theorem getLast_take{α:Type}(l:List α)(n:Nat)(h:0<n)(hn:n≤l.length):(l.take n).getLast?=l[n-1]?:=by
 rw[List.getLast?_eq_getElem?,List.length_take,Nat.min_eq_left hn,List.getElem?_take];rw[if_pos (by omega)]
theorem digs_take(hB:1<B)(d:Dg B l){n:Nat}(hn:n≤l.length)(hv:dval B (l.take n)=dval B l)(hz:n=0∨l.getD (n-1) 0≠0):digs B (dval B l)=l.take n:=by
 rw[←hv];refine digs_of hB (d.take n) ?_;rcases Nat.eq_zero_or_pos n with h0 | h0
 ·subst h0;simp[Nrm]
 ·unfold Nrm;rw[getLast_take l n h0 hn];rcases hz with h1 | h1
  ·omega
  ·intro h2;apply h1;simp[List.getD,h2]
theorem dval_take_pred{n:Nat}(h:0<n)(h0:l.getD (n-1) 0=0):dval B (l.take (n-1))=dval B (l.take n):=by
 have:=dval_take_succ' (B:=B) l (n-1);rw[Nat.sub_add_cancel h,h0]at this;rw[this];simp
theorem digs_take_len(hB:1<B)(d:Dg B l):digs B (dval B l)=l.take (digs B (dval B l)).length∧(digs B (dval B l)).length≤l.length:=by
 rw[←cutz_digs hB d];refine⟨?_,cutz_len l⟩;have:=cutz_prefix l;exact List.prefix_iff_eq_take.1 this
end
section
variable {a b o:List Bool}
theorem bval_nil:bval []=0:=rfl
theorem bval_take_succ{i:Nat}(h:i<b.length):bval (b.take (i+1))=bval (b.take i)+2^i*b[i].toNat:=by
 rw[List.take_succ_eq_append_getElem h,bval_concat,List.length_take,Nat.min_eq_left (by omega)]
theorem bval_take_all{i:Nat}(h:b.length≤i):bval (b.take i)=bval b:=by rw[List.take_of_length_le h]
theorem bval_drop{i:Nat}(h:i<b.length):bval (b.drop i)=b[i].toNat+2*bval (b.drop (i+1)):=by
 rw[List.drop_eq_getElem_cons h,bval_cons]
theorem bval_zeros(n:Nat):bval (List.replicate n false)=0:=by
 unfold bval bnat;rw[List.map_replicate];exact dval_zeros n
theorem bval_set{i:Nat}(h:i<b.length)(h0:b[i]=false):bval (b.set i true)=bval b+2^i:=by
 have h1:=dval_set (B:=2) (l:=bnat b) (i:=i) (y:=1) (by rw[bnat_len];exact h);have h2:(bnat b)[i]'(by rw[bnat_len];exact h)=0:=by simp[bnat,h0]
 rw[h2]at h1;have h3:bnat (b.set i true)=(bnat b).set i 1:=by simp[bnat,List.map_set]
 unfold bval;rw[h3];omega
theorem bits_take{n:Nat}(hn:n≤b.length)(hv:bval (b.take n)=bval b)(hz:n=0∨b.getD (n-1) false=true):bits (bval b)=b.take n:=by
 rw[←hv];refine bits_of ?_;rcases Nat.eq_zero_or_pos n with h0 | h0
 ·subst h0;simp[NrmB]
 ·unfold NrmB;rw[getLast_take b n h0 hn];rcases hz with h1 | h1
  ·omega
  ·intro h2;simp[List.getD,h2]at h1
theorem bval_take_pred{n:Nat}(h:0<n)(hn:n≤b.length)(h0:b.getD (n-1) false=false):bval (b.take (n-1))=bval (b.take n):=by
 have h1:n-1<b.length:=by omega
 have:=bval_take_succ (b:=b) h1;rw[Nat.sub_add_cancel h]at this;rw[getD_in _ _ h1]at h0;rw[this,h0];simp
def bitN(b:List Bool)(i:Nat):Nat:=(b.getD i false).toNat
theorem bitN_in{i:Nat}(h:i<b.length):bitN b i=b[i].toNat:=by unfold bitN;rw[getD_in _ _ h]
theorem bitN_out{i:Nat}(h:b.length≤i):bitN b i=0:=by unfold bitN;rw[getD_out _ _ h];rfl
theorem bval_take_bitN(b:List Bool)(i:Nat):bval (b.take (i+1))=bval (b.take i)+2^i*bitN b i:=by
 by_cases h:i<b.length
 ·rw[bval_take_succ h,bitN_in h]
 ·rw[bval_take_all (by omega),bval_take_all (by omega),bitN_out (by omega)];simp
theorem addB_step{i c:Nat}{x:Bool}{d:Nat}(ho:o.length=i)(h:bval o+2^i*c=bval (a.take i)+bval (b.take i))(hx:x.toNat+2*d=c+bitN a i+bitN b i):
  bval (o++[x])+2^(i+1)*d=bval (a.take (i+1))+bval (b.take (i+1)):=by
 rw[bval_concat,ho,bval_take_bitN,bval_take_bitN,Nat.pow_succ,Nat.mul_assoc];have:=congrArg (2^i* ·) hx;simp only[Nat.mul_add]at this;omega
theorem subB_step{i w d:Nat}{x:Bool}(ho:o.length=i)(h:bval o+bval (b.take i)=bval (a.take i)+2^i*w)(hx:x.toNat+bitN b i+w=bitN a i+2*d):
  bval (o++[x])+bval (b.take (i+1))=bval (a.take (i+1))+2^(i+1)*d:=by
 rw[bval_concat,ho,bval_take_bitN,bval_take_bitN,Nat.pow_succ,Nat.mul_assoc];have:=congrArg (2^i* ·) hx;simp only[Nat.mul_add]at this;omega
theorem subB_end{n:Nat}{w X Y O:Nat}(h:O+Y=X+2^n*w)(hO:O<2^n)(hle:Y≤X):O=X-Y:=by
 rcases Nat.eq_zero_or_pos w with h0 | h0
 ·subst h0;omega
 ·have:2^n≤2^n*w:=Nat.le_mul_of_pos_right _ h0;omega
theorem divB_ge{D Q R m x:Nat}(h:D=Q*m+R)(_hR:R<m)(hge:m≤x+2*R):x+2*D=(2*Q+1)*m+(x+2*R-m):=by
 rw[Nat.add_mul,Nat.mul_assoc,Nat.one_mul];omega
theorem divB_lt{D Q R m x:Nat}(h:D=Q*m+R):x+2*D=(2*Q)*m+(x+2*R):=by
 rw[Nat.mul_assoc];omega
theorem div_unique{D Q R m:Nat}(h:D=Q*m+R)(hR:R<m):Q=D / m∧R=D % m:=by
 subst h;rw[Nat.mul_comm Q m,Nat.mul_add_div (by omega),Nat.div_eq_of_lt hR,Nat.mul_add_mod,Nat.mod_eq_of_lt hR];exact⟨rfl,rfl⟩
theorem topB_lt{i:Nat}(hi:i<a.length)(hm:i<b.length)(hlm:a.length=b.length)(he:a.drop (i+1)=b.drop (i+1))(h1:a[i]=false)(h2:b[i]=true):bval a<bval b:=by
 refine top_lt (B:=2) (bnat_dg a) i (by rw[bnat_len];exact hi) (by rw[bnat_len];exact hm) (by rw[bnat_len,bnat_len];exact hlm) ?_ ?_
 ·unfold bnat;rw[←List.map_drop,←List.map_drop,he]
 ·simp[bnat,h1,h2]
theorem bits_lt_len{n m:Nat}(h:(bits n).length<(bits m).length):n<m:=by
 rcases Nat.lt_or_ge n m with h1 | h1
 ·exact h1
 ·have:=digs_len_mono (B:=2) (by decide) h1;rw[bits_len,bits_len]at h;omega
theorem bits_len_le{n k:Nat}(h:n<2^k):(bits n).length≤k:=by rw[bits_len];exact digs_len (by decide) h
theorem limbs_len_le'{n k:Nat}(h:n<2^k):(limbs n).length≤k:=by
 refine digs_len (by decide) (Nat.lt_of_lt_of_le h ?_);exact Nat.pow_le_pow_left (by decide) k
theorem ofB_step{i w w0:Nat}{x:Bool}(h:bval o+2^i*w=w0)(ho:o.length=i)(hx:x.toNat=w % 2):bval (o++[x])+2^(i+1)*(w / 2)=w0:=by
 rw[bval_concat,ho,hx,Nat.pow_succ,Nat.mul_assoc];have:2^i*(w % 2+2*(w / 2))=2^i*w:=by rw[Nat.mod_add_div]
 rw[Nat.mul_add]at this;omega
end
theorem pow32(k:Nat):(4294967296:Nat)^k=2^(32*k):=by
 rw[Nat.pow_mul]
theorem or_disj(s a b:Nat)(h:a<2^s):a ||| (b*2^s)=a+b*2^s:=by
 have:=Nat.two_pow_add_eq_or_of_lt h b;rw[Nat.or_comm,Nat.mul_comm b,←this,Nat.add_comm]
theorem shl_lt{u s:Nat}(hu:u<4294967296)(hs:s≤31):u*2^s+2^s≤9223372036854775808:=by
 have h1:2^s≤2^31:=Nat.pow_le_pow_right (by decide) hs;have h2:(u+1)*2^s≤4294967296*2^31:=Nat.mul_le_mul (by omega) h1;rw[Nat.add_mul]at h2;omega
theorem or_shl{cc u s:Nat}(hc:cc<2^s)(hu:u<4294967296)(hs:s≤31):Go.bits .or .u64 (cc:Int) (IntKind.u64.wrap ((u:Int)*2^s))=((cc+u*2^s:Nat):Int):=by
 have h1:=shl_lt hu hs;have h2:(u:Int)*2^s=((u*2^s:Nat):Int):=by push_cast;rfl
 have h3:IntKind.u64.wrap ((u*2^s:Nat):Int)=((u*2^s:Nat):Int):=by rw[IntKind.wrap_u64];omega
 rw[h2,h3,bits_or_u64_nat _ _ (by omega) (by omega),or_disj s cc u hc]
theorem shl_step{B:Nat}{p o:List Nat}{k s cc u:Nat}(ho:o.length=k)(hk:k<p.length)(hu:p[k]=u)(h:dval B o+B^k*cc=dval B (p.take k)*2^s):
  dval B (o++[(cc+u*2^s) % B])+B^(k+1)*((cc+u*2^s) / B)=dval B (p.take (k+1))*2^s:=by
 rw[dval_concat,ho,dval_take_succ hk,hu,Nat.pow_succ,Nat.add_mul,Nat.mul_assoc (B^k) u];have:=mul_mod_div (B^k) B (cc+u*2^s);simp only[Nat.mul_add]at this ⊢;omega
theorem shl_carry{cc u s:Nat}(hc:cc<2^s)(hu:u<4294967296):(cc+u*2^s) / 4294967296<2^s:=by
 apply Nat.div_lt_of_lt_mul;have:(u+1)*2^s≤4294967296*2^s:=Nat.mul_le_mul_right _ hu;rw[Nat.add_mul]at this;omega
theorem mod_step(X B k:Nat):X % B^(k+1)=X % B^k+B^k*(X / B^k % B):=Nat.mod_pow_succ
theorem shr_limb{p:List Nat}(hp:Dg 4294967296 p){k s:Nat}(hs:s≤31)(hk:k<p.length):dval 4294967296 p / 2^s / 4294967296^k % 4294967296=(p[k]+p.getD (k+1) 0*4294967296) / 2^s % 4294967296:=by
 have h1:dval 4294967296 p / 4294967296^k=dval 4294967296 (p.drop k):=by
  rw[dval_split (B:=4294967296) (l:=p) k (by omega)];have:=dval_lt (hp.take k);rw[List.length_take,Nat.min_eq_left (by omega)]at this;rw[Nat.add_mul_div_left _ _ (Nat.pow_pos (by decide)),Nat.div_eq_of_lt this,Nat.zero_add]
 rw[Nat.div_div_eq_div_mul,Nat.mul_comm,←Nat.div_div_eq_div_mul,h1];have h2:∃ Y,dval 4294967296 (p.drop k)=p[k]+p.getD (k+1) 0*4294967296+4294967296*4294967296*Y:=by
  rw[dval_drop hk];by_cases h:k+1<p.length
  ·rw[dval_drop h,getD_in _ _ h];exact⟨dval 4294967296 (p.drop (k+1+1)),by omega⟩
  ·rw[List.drop_eq_nil_of_le (by omega),getD_out _ _ (by omega)];exact⟨0,by simp⟩
 obtain⟨Y,hY⟩:=h2;rw[hY];have h3:(4294967296*4294967296*Y:Nat)=2^s*(4294967296*(2^(32-s)*Y)):=by
  have:(4294967296:Nat)=2^s*2^(32-s):=by rw[←Nat.pow_add,show s+(32-s)=32 by omega]
  have h4:(4294967296*4294967296*Y:Nat)=4294967296*(4294967296*Y):=Nat.mul_assoc _ _ _;rw[h4]
  conv=>lhs;rw[this]
  rw[Nat.mul_assoc,←Nat.mul_assoc (2^(32-s)),Nat.mul_comm (2^(32-s)),Nat.mul_assoc,←this]
 rw[h3,Nat.add_mul_div_left _ _ (Nat.pow_pos (by decide)),Nat.add_mul_mod_self_left]
theorem shr_end{p:List Nat}(hp:Dg 4294967296 p)(s:Nat):dval 4294967296 p / 2^s % 4294967296^p.length=dval 4294967296 p / 2^s:=
 Nat.mod_eq_of_lt (Nat.lt_of_le_of_lt (Nat.div_le_self _ _) (dval_lt hp))
theorem mulU_step{B N i S cc u v z:Nat}{o:List Nat}(hi:i<N)(hN:N≤o.length)(hz:∀ h:i<o.length,o[i]=z)(h:dval B (o.take N)+B^i*cc=S):
  dval B ((o.set i ((cc+(u*v+z)) % B)).take N)+B^(i+1)*((cc+(u*v+z)) / B)=S+B^i*(u*v):=by
 rw[List.take_set,Nat.pow_succ];refine mul_step h ?_;have:=dval_set (B:=B) (l:=o.take N) (i:=i) (y:=(cc+(u*v+z)) % B) (by rw[List.length_take];omega);rw[List.getElem_take,hz (by omega)]at this;exact this
theorem mulU_inner{B k j X u v D:Nat}:X+B^k*(u*D)+B^(k+j)*(u*v)=X+B^k*(u*(D+B^j*v)):=by
 rw[Nat.mul_add u,Nat.mul_add (B^k),Nat.pow_add,Nat.add_assoc,Nat.mul_assoc];have e:B^j*(u*v)=u*(B^j*v):=by rw[←Nat.mul_assoc,Nat.mul_comm (B^j) u,Nat.mul_assoc]
 rw[e]
theorem mulU_outer{B k n cc u P Q:Nat}{o:List Nat}(hi:k+n<o.length)(h:dval B (o.take (k+n))+B^(k+n)*cc=P*Q+B^k*(u*Q)):
  dval B ((o.set (k+n) cc).take (k+1+n))=(P+B^k*u)*Q:=by
 rw[show k+1+n=k+n+1 by omega,dval_take_succ (by rw[List.length_set];exact hi),List.take_set_of_le (Nat.le_refl _),List.getElem_set_self,h,Nat.add_mul,Nat.mul_assoc]
def win(xs:List Nat)(j i:Nat):Nat:=dval 4294967296 ((xs.drop j).take i)
theorem win_zero(xs:List Nat)(j:Nat):win xs j 0=0:=by simp[win]
theorem win_succ{xs:List Nat}{j i:Nat}(h:j+i<xs.length):win xs j (i+1)=win xs j i+4294967296^i*xs[j+i]:=by
 unfold win;rw[dval_take_succ (by rw[List.length_drop];omega),List.getElem_drop]
theorem win_set{xs:List Nat}{j i p y:Nat}(h:j+i≤p):win (xs.set p y) j i=win xs j i:=by
 unfold win
 congr 1
 apply List.ext_getElem?;intro q;rw[List.getElem?_take,List.getElem?_take];split
 ·rw[List.getElem?_drop,List.getElem?_drop,List.getElem?_set_ne (by omega)]
 ·rfl
theorem win_lt{xs:List Nat}(h:Dg 4294967296 xs)(j i:Nat):win xs j i<4294967296^i:=by
 have h1:=dval_lt ((h.drop j).take i);have h2:4294967296^((xs.drop j).take i).length≤4294967296^i:=Nat.pow_le_pow_right (by decide) (List.length_take_le _ _);exact Nat.lt_of_lt_of_le h1 h2
def Out(xs xs':List Nat)(j i:Nat):Prop:=xs'.length=xs.length∧∀ q,(q<j∨j+i≤q)→xs'.getD q 0=xs.getD q 0
theorem Out.refl(xs:List Nat)(j i:Nat):Out xs xs j i:=⟨rfl,fun _ _=>rfl⟩
theorem Out.get{xs xs':List Nat}{j i q:Nat}(h:Out xs xs' j i)(hq:q<j∨j+i≤q)(h1:q<xs.length):xs'[q]'(by rw[h.1];exact h1)=xs[q]:=by
 have:=h.2 q hq;rwa[getD_in _ _ (by rw[h.1];exact h1),getD_in _ _ h1]at this
theorem Out.set{xs xs':List Nat}{j i y:Nat}(h:Out xs xs' j i):Out xs (xs'.set (j+i) y) j (i+1):=by
 refine⟨by rw[List.length_set];exact h.1,fun q hq=>?_⟩;rw[←h.2 q (by omega),List.getD_eq_getElem?_getD,List.getD_eq_getElem?_getD,List.getElem?_set_ne (by omega)]
theorem Out.mono{xs xs':List Nat}{j i i':Nat}(h:Out xs xs' j i)(hi:i≤i'):Out xs xs' j i':=⟨h.1,fun q hq=>h.2 q (by omega)⟩
theorem Out.tr{xs ys zs:List Nat}{j i:Nat}(h:Out xs ys j i)(k:Out ys zs j i):Out xs zs j i:=⟨k.1.trans h.1,fun q hq=>(k.2 q hq).trans (h.2 q hq)⟩
theorem Out.drop{xs xs':List Nat}{j i p:Nat}(h:Out xs xs' j i)(hp:j+i≤p):xs'.drop p=xs.drop p:=by
 apply List.ext_getElem
 ·rw[List.length_drop,List.length_drop,h.1]
 ·intro q h1 h2;rw[List.length_drop]at h1 h2;rw[List.getElem_drop,List.getElem_drop];exact h.get (.inr (by omega)) (by omega)
theorem Out.take{xs xs':List Nat}{j i p:Nat}(h:Out xs xs' j i)(hp:p≤j):xs'.take p=xs.take p:=by
 apply List.ext_getElem
 ·rw[List.length_take,List.length_take,h.1]
 ·intro q h1 h2;rw[List.length_take]at h1 h2;rw[List.getElem_take,List.getElem_take];exact h.get (.inl (by omega)) (by omega)
def sgn(neg:Bool)(n:Nat):Int:=if neg then-(n:Int)else n
theorem sgn_natAbs(neg:Bool)(n:Nat):(sgn neg n).natAbs=n:=by cases neg<;>simp[sgn]
theorem sgn_neg(n:Int):sgn (decide (n<0)) n.natAbs=n:=by
 unfold sgn;by_cases h:n<0
 ·simp[h];omega
 ·simp[h];omega
theorem sgn_lt{neg:Bool}{n:Nat}:decide (sgn neg n<0)=(neg&&decide (0<n)):=by
 cases neg<;>simp[sgn]
theorem sgn_mul(a b:Bool)(n m:Nat):sgn (a != b) (n*m)=sgn a n*sgn b m:=by
 cases a<;>cases b<;>simp[sgn,Int.neg_mul,Int.mul_neg]
theorem sgn_scale(a:Bool)(n m:Nat):sgn a (n*m)=sgn a n*m:=by
 cases a<;>simp[sgn,Int.neg_mul]
def sumS(an:Bool)(a:Nat)(bn:Bool)(b:Nat):Bool×Nat:=if an=bn then(an,a+b)else if b≤a then(an,a-b)else(bn,b-a)
theorem sumS_eq(an:Bool)(a:Nat)(bn:Bool)(b:Nat):sgn (sumS an a bn b).1 (sumS an a bn b).2=sgn an a+sgn bn b:=by
 unfold sumS;split
 ·rename_i h;subst h;cases an<;>simp[sgn];omega
 ·split
  ·cases an<;>cases bn<;>simp_all[sgn]<;>omega
  ·cases an<;>cases bn<;>simp_all[sgn]<;>omega
theorem sumS_le(an:Bool)(a:Nat)(bn:Bool)(b:Nat):(sumS an a bn b).2≤a+b:=by
 unfold sumS;split<;>(try split)<;>simp<;>omega
theorem made_num(neg:Bool)(n d:Nat)(h:d≠0):(mkRat (sgn neg n) d).num.natAbs=n / n.gcd d∧(mkRat (sgn neg n) d).den=d / n.gcd d∧decide ((mkRat (sgn neg n) d).num<0)=(neg&&decide (0<n)):=by
 have e:mkRat (sgn neg n) d=Rat.normalize (sgn neg n) d h:=by rw[mkRat,dif_neg h]
 rw[e,Rat.normalize_eq];simp only[sgn_natAbs];have hg:0<n.gcd d:=Nat.gcd_pos_of_pos_right _ (by omega);have hd:n.gcd d ∣ n:=Nat.gcd_dvd_left _ _;have e2:sgn neg n / ((n.gcd d:Nat):Int)=sgn neg (n / n.gcd d):=by
  cases neg
  ·simp[sgn]
  ·simp only[sgn,if_true];rw[Int.neg_ediv_of_dvd (Int.ofNat_dvd.2 hd)];simp
 rw[e2,sgn_natAbs,sgn_lt];refine⟨by trivial,by trivial,?_⟩
 congr 1
 refine decide_eq_decide.2 ⟨fun h1=>?_,fun h1=>Nat.div_pos (Nat.le_of_dvd h1 hd) hg⟩;rcases Nat.eq_zero_or_pos n with h0 | h0
 ·subst h0;simp at h1
 ·exact h0
theorem rat_add_made(a b:Rat):a+b=mkRat (a.num*b.den+b.num*a.den) (a.den*b.den):=by
 rw[Rat.add_def,Rat.normalize_eq_mkRat]
theorem rat_mul_made(a b:Rat):a*b=mkRat (a.num*b.num) (a.den*b.den):=by
 rw[Rat.mul_def,Rat.normalize_eq_mkRat]
theorem rat_inv_made(a:Rat)(h:a≠0):a⁻¹ =mkRat (sgn (decide (a.num<0)) a.den) a.num.natAbs:=by
 have hn:a.num≠0:=fun e=>h (Rat.num_eq_zero.1 e);rw[Rat.inv_def,←Rat.divInt_ofNat];have h1:(a.num.natAbs:Int)≠0:=by omega
 rw[Rat.divInt_eq_divInt_iff hn h1];unfold sgn;by_cases hlt:a.num<0
 ·simp only[hlt,decide_true,if_true,Int.ofNat_natAbs_of_nonpos (Int.le_of_lt hlt)];simp[Int.mul_neg,Int.neg_mul]
 ·simp only[hlt,decide_false];simp only[Bool.false_eq_true,if_false];rw[Int.natAbs_of_nonneg (by omega)]
def Bd(k:Nat)(q:Rat):Prop:=q.num.natAbs<2^k∧q.den<2^k
theorem Bd.mono{k m:Nat}{q:Rat}(h:Bd k q)(hm:k≤m):Bd m q:=
 ⟨Nat.lt_of_lt_of_le h.1 (Nat.pow_le_pow_right (by decide) hm),Nat.lt_of_lt_of_le h.2 (Nat.pow_le_pow_right (by decide) hm)⟩
theorem Bd.made{k:Nat}{neg:Bool}{n d:Nat}(h:d≠0)(hn:n<2^k)(hd:d<2^k):Bd k (mkRat (sgn neg n) d):=by
 obtain⟨h1,h2,_⟩:=made_num neg n d h;exact⟨by rw[h1];exact Nat.lt_of_le_of_lt (Nat.div_le_self _ _) hn,by rw[h2];exact Nat.lt_of_le_of_lt (Nat.div_le_self _ _) hd⟩
theorem Bd.made'{k:Nat}{n:Int}{d:Nat}(h:d≠0)(hn:n.natAbs<2^k)(hd:d<2^k):Bd k (mkRat n d):=by
 have:=Bd.made (neg:=decide (n<0)) h hn hd;rwa[sgn_neg]at this
theorem lt_pow_mul{a b k m:Nat}(h1:a<2^k)(h2:b<2^m):a*b<2^(k+m):=by
 rw[Nat.pow_add];rcases Nat.eq_zero_or_pos a with h | h
 ·subst h;rw[Nat.zero_mul];exact Nat.mul_pos (Nat.pow_pos (by decide)) (Nat.pow_pos (by decide))
 ·calc a*b<a*2^m:=Nat.mul_lt_mul_of_pos_left h2 h
   _≤2^k*2^m:=Nat.mul_le_mul_right _ (by omega)
theorem Bd.add{k m:Nat}{a b:Rat}(ha:Bd k a)(hb:Bd m b):Bd (k+m+1) (a+b):=by
 rw[rat_add_made];have h1:=lt_pow_mul ha.1 hb.2;have h2:=lt_pow_mul hb.1 ha.2;have h3:=lt_pow_mul ha.2 hb.2;rw[Nat.add_comm m k]at h2;refine Bd.made' (Nat.mul_ne_zero a.den_nz b.den_nz) ?_ ?_
 ·have h4:(a.num*b.den+b.num*a.den).natAbs≤a.num.natAbs*b.den+b.num.natAbs*a.den:=by
   have:=Int.natAbs_add_le (a.num*b.den) (b.num*a.den);rw[Int.natAbs_mul,Int.natAbs_mul]at this;simpa using this
  rw[Nat.pow_succ];omega
 ·rw[Nat.pow_succ];omega
theorem Bd.mul{k m:Nat}{a b:Rat}(ha:Bd k a)(hb:Bd m b):Bd (k+m) (a*b):=by
 rw[rat_mul_made];refine Bd.made' (Nat.mul_ne_zero a.den_nz b.den_nz) ?_ (lt_pow_mul ha.2 hb.2);rw[Int.natAbs_mul];exact lt_pow_mul ha.1 hb.1
theorem Bd.neg{k:Nat}{a:Rat}(ha:Bd k a):Bd k (-a):=by
 refine⟨?_,?_⟩
 ·rw[Rat.neg_num,Int.natAbs_neg];exact ha.1
 ·rw[Rat.neg_den];exact ha.2
theorem Bd.inv{k:Nat}{a:Rat}(ha:Bd k a)(h0:a≠0):Bd k a⁻¹ :=by
 rw[rat_inv_made a h0];have hn:a.num≠0:=fun e=>h0 (Rat.num_eq_zero.1 e);exact Bd.made (by omega) ha.2 ha.1
theorem Bd.zero{k:Nat}(h:0<k):Bd k 0:=by
 have:2^1≤2^k:=Nat.pow_le_pow_right (by decide) h;exact⟨by simp;exact Nat.pow_pos (by decide),by simp;omega⟩
abbrev Tm:=Int×Rat
def coef:List Tm→Int→Rat
 | [],_=>0
 | t::l,v=>(if t.1=v then t.2 else 0)+coef l v
theorem coef_append(l m:List Tm)(v:Int):coef (l++m) v=coef l v+coef m v:=by
 induction l with
 | nil=>simp only[List.nil_append,coef];grind
 | cons t l ih=>simp only[List.cons_append,coef,ih,Rat.add_assoc]
theorem coef_perm{l m:List Tm}(h:l.Perm m)(v:Int):coef l v=coef m v:=by
 induction h with
 | nil=>rfl
 | cons x _ ih=>simp only[coef,ih]
 | swap x y l=>simp only[coef];grind
 | trans _ _ h1 h2=>rw[h1,h2]
theorem coef_none{l:List Tm}{v:Int}(h:∀ t∈l,t.1≠v):coef l v=0:=by
 induction l with
 | nil=>rfl
 | cons t l ih=>rw[coef,if_neg (h t (by simp)),ih fun x hx=>h x (by simp[hx])];grind
theorem coef_map(l:List Tm)(r:Rat)(v:Int):coef (l.map fun t=>(t.1,r*t.2)) v=r*coef l v:=by
 induction l with
 | nil=>simp[coef]
 | cons t l ih=>simp only[List.map_cons,coef,ih];split<;>grind
def Form(l:List Tm):Prop:=l.Pairwise (fun a b=>a.1<b.1)∧∀ t∈l,t.2≠0
theorem Form.tail{t:Tm}{l:List Tm}(h:Form (t::l)):Form l:=⟨(List.pairwise_cons.1 h.1).2,fun x hx=>h.2 x (by simp[hx])⟩
theorem Form.head{t:Tm}{l:List Tm}(h:Form (t::l)):coef (t::l) t.1=t.2:=by
 rw[coef,if_pos rfl,coef_none fun x hx=>?_]
 ·grind
 ·have:=(List.pairwise_cons.1 h.1).1 x hx;omega
theorem Form.below{t:Tm}{l:List Tm}(h:Form (t::l)){v:Int}(hv:v<t.1):coef (t::l) v=0:=
 coef_none fun x hx=>by
  rcases List.mem_cons.1 hx with rfl | h1
  ·omega
  ·have:=(List.pairwise_cons.1 h.1).1 x h1;omega
theorem form_inj:∀ {l m:List Tm},Form l→Form m→(∀v,coef l v=coef m v)→l=m
 | [],[],_,_,_=>rfl
 | [],t::m,_,h2,h=>by
   have:=h t.1;rw[h2.head]at this;exact absurd this.symm (h2.2 t (by simp))
 | t::l,[],h1,_,h=>by
   have:=h t.1;rw[h1.head]at this;exact absurd this (h1.2 t (by simp))
 | t::l,u::m,h1,h2,h=>by
   have e1:t.1=u.1:=by
    rcases Int.lt_trichotomy t.1 u.1 with hlt | he | hgt
    ·have:=h t.1;rw[h1.head,h2.below hlt]at this;exact absurd this (h1.2 t (by simp))
    ·exact he
    ·have:=h u.1;rw[h2.head,h1.below hgt]at this;exact absurd this.symm (h2.2 u (by simp))
   have e2:t.2=u.2:=by
    have:=h t.1;rw[h1.head,e1,h2.head]at this;exact this
   have e3:t=u:=Prod.ext e1 e2;subst e3;rw[form_inj h1.tail h2.tail fun v=>?_];have:=h v;simp only[coef]at this;grind
theorem coef_ne_mem{l:List Tm}{v:Int}(h:coef l v≠0):∃ t∈l,t.1=v:=by
 induction l with
 | nil=>exact absurd rfl h
 | cons t l ih=>
   by_cases hv:t.1=v
   ·exact⟨t,by simp,hv⟩
   ·rw[coef,if_neg hv]at h;obtain⟨x,hx,he⟩:=ih (fun e=>h (by rw[e];grind));exact⟨x,by simp[hx],he⟩
def valAt(p:List Rat)(v:Int):Rat:=if 0≤v then p.getD v.toNat 0 else 0
def evalT(p:List Rat):List Tm→Rat
 | []=>0
 | t::l=>t.2*valAt p t.1+evalT p l
def sumTo:Nat→(Nat→Rat)→Rat
 | 0,_=>0
 | n+1,f=>sumTo n f+f n
theorem sumTo_add(n:Nat)(f g:Nat→Rat):sumTo n (fun i=>f i+g i)=sumTo n f+sumTo n g:=by
 induction n with
 | zero=>simp only[sumTo];grind
 | succ n ih=>simp only[sumTo,ih];grind
theorem sumTo_congr{n:Nat}{f g:Nat→Rat}(h:∀ i,i<n→f i=g i):sumTo n f=sumTo n g:=by
 induction n with
 | zero=>rfl
 | succ n ih=>simp only[sumTo];rw[ih fun i hi=>h i (by omega),h n (by omega)]
theorem sumTo_zero{n:Nat}{f:Nat→Rat}(h:∀ i,i<n→f i=0):sumTo n f=0:=by
 induction n with
 | zero=>rfl
 | succ n ih=>simp only[sumTo];rw[ih fun i hi=>h i (by omega),h n (by omega)];grind
theorem sumTo_one{n k:Nat}(hk:k<n)(x:Rat):sumTo n (fun i=>if i=k then x else 0)=x:=by
 induction n with
 | zero=>omega
 | succ n ih=>
   simp only[sumTo];by_cases h:k=n
   ·subst h;rw[sumTo_zero fun i hi=>if_neg (by omega),if_pos rfl];grind
   ·rw[ih (by omega),if_neg (by omega)];grind
theorem eval_coef(p:List Rat)(l:List Tm):evalT p l=sumTo p.length (fun i=>coef l (i:Int)*p.getD i 0):=by
 induction l with
 | nil=>rw[sumTo_zero fun i _=>by simp[coef]];rfl
 | cons t l ih=>
   rw[evalT,ih];have e:(fun i:Nat=>coef (t::l) (i:Int)*p.getD i 0)=fun i:Nat=>(if t.1=(i:Int)then t.2 else 0)*p.getD i 0+coef l (i:Int)*p.getD i 0:=by
    funext i;simp only[coef];grind
   rw[e,sumTo_add]
   congr 1
   unfold valAt;by_cases h0:0≤t.1
   ·rw[if_pos h0];by_cases h1:t.1.toNat<p.length
    ·rw[←sumTo_one h1 (t.2*p.getD t.1.toNat 0)];refine sumTo_congr fun i _=>?_;by_cases he:i=t.1.toNat
     ·rw[if_pos he,if_pos (by omega),he]
     ·rw[if_neg he,if_neg (by omega)];simp
    ·rw[getD_out _ _ (by omega),sumTo_zero fun i hi=>?_]
     ·simp
     ·rw[if_neg (by omega)];simp
   ·rw[if_neg h0,sumTo_zero fun i hi=>?_]
    ·simp
    ·rw[if_neg (by omega)];simp
theorem eval_same(p:List Rat){l m:List Tm}(h:∀ v,coef l v=coef m v):evalT p l=evalT p m:=by
 rw[eval_coef,eval_coef];exact sumTo_congr fun i _=>by rw[h]
theorem eval_scale(p:List Rat){l m:List Tm}{r:Rat}(h:∀ v,coef l v=r*coef m v):evalT p l=r*evalT p m:=by
 rw[eval_same p (m:=m.map fun t=>(t.1,r*t.2)) fun v=>by rw[h,coef_map]];clear h
 induction m with
 | nil=>simp[evalT]
 | cons t m ih=>simp only[List.map_cons,evalT,ih];grind
theorem bitLen_bd{x:Nat}(h0:0<x)(h:x<4294967296):1≤Lib.bitLen x∧Lib.bitLen x≤32∧2^31≤x*2^(32-Lib.bitLen x)∧x*2^(32-Lib.bitLen x)<2^32:=by
 have key:∀ n x:Nat,0<x→x<2^n→n≤64→1≤Lib.bitLen x∧2^(Lib.bitLen x-1)≤x∧x<2^Lib.bitLen x:=by
  intro n
  induction n with
  | zero=>intro x h1 h2 _;simp at h2;omega
  | succ n ih=>
    intro x h1 h2 hn;have h64:x<2^64:=Nat.lt_of_lt_of_le h2 (Nat.pow_le_pow_right (by decide) hn);rw[Lib.bitLen_half x (by omega) h64];by_cases hx:x / 2=0
    ·have:x=1:=by omega
     subst this;decide
    ·obtain⟨i1,i2,i3⟩:=ih (x / 2) (by omega) (by rw[Nat.pow_succ]at h2;omega) (by omega);generalize Lib.bitLen (x / 2)=b at*;refine⟨by omega,?_,?_⟩
     ·rw[show 1+b-1=(b-1)+1 by omega,Nat.pow_succ];omega
     ·rw[Nat.add_comm,Nat.pow_succ];omega
 obtain⟨k1,k2,k3⟩:=key 32 x h0 h (by decide);have k4:=Lib.bitLen_le x 32 (by decide) h;generalize Lib.bitLen x=b at*;refine⟨k1,k4,?_,?_⟩
 ·have:2^(b-1)*2^(32-b)≤x*2^(32-b):=Nat.mul_le_mul_right _ k2;rw[←Nat.pow_add,show b-1+(32-b)=31 by omega]at this;exact this
 ·have:(x+1)*2^(32-b)≤2^b*2^(32-b):=Nat.mul_le_mul_right _ k3;rw[←Nat.pow_add,show b+(32-b)=32 by omega,Nat.add_mul]at this;have:=Nat.pow_pos (n:=32-b) (show 0<2 by decide);omega
theorem guess_aB{B a b r z t1 t0:Nat}(h:a+r=z+t1)(h1:r*B+t0<b):z*B+t1*B+t0<a*B+b:=by
 have h2:(a+r)*B=(z+t1)*B:=by rw[h]
 rw[Nat.add_mul,Nat.add_mul]at h2;omega
theorem guess_bB{B a b r z t1 t0:Nat}(h:a+r=z+t1)(h1:b≤r*B+t0):a*B+b≤z*B+t1*B+t0:=by
 have h2:(a+r)*B=(z+t1)*B:=by rw[h]
 rw[Nat.add_mul,Nat.add_mul]at h2;omega
structure Gs(U V d t2 t1 g r:Nat):Prop where
 eq:g*d+r=t2*4294967296+t1
 low:U / V≤g
 rest:r<4294967296
structure Kn(U V P d d2 t2 t1 t0:Nat):Prop where
 uv:U<4294967296*V
 v0:0<V
 tu:(t2*4294967296*4294967296+t1*4294967296+t0)*P≤U∧U<(t2*4294967296*4294967296+t1*4294967296+t0+1)*P
 wv:(d*4294967296+d2)*P≤V∧V<(d*4294967296+d2+1)*P
 dd:2147483648≤d∧d<4294967296
 small:d2<4294967296∧t2<4294967296∧t1<4294967296∧t0<4294967296
section
variable {U V P d d2 t2 t1 t0 g r:Nat}
theorem Kn.div_lt(h:Kn U V P d d2 t2 t1 t0):U / V<4294967296:=Nat.div_lt_of_lt_mul (by rw[Nat.mul_comm];exact h.uv)
theorem Kn.top(h:Kn U V P d d2 t2 t1 t0):t2*4294967296+t1≤d*4294967296+4294967295:=by
 have h1:(t2*4294967296*4294967296+t1*4294967296+t0)*P<4294967296*((d*4294967296+d2+1)*P):=
  Nat.lt_of_le_of_lt h.tu.1 (Nat.lt_of_lt_of_le h.uv (Nat.mul_le_mul_left _ (Nat.le_of_lt h.wv.2)))
 rw[←Nat.mul_assoc]at h1;have h2:=Nat.lt_of_mul_lt_mul_right h1;have:=h.small;omega
theorem Kn.start(h:Kn U V P d d2 t2 t1 t0):Gs U V d t2 t1 ((t2*4294967296+t1) / d) ((t2*4294967296+t1) % d):=by
 have hd:0<d:=by have:=h.dd;omega
 have hm:=Nat.mod_lt (t2*4294967296+t1) hd;have he:=Nat.mod_add_div (t2*4294967296+t1) d;have h3:(t2*4294967296+t1) / d*d+(t2*4294967296+t1) % d=t2*4294967296+t1:=by rw[Nat.mul_comm];omega
 refine⟨h3,?_,by have:=h.dd;omega⟩;have h4:U / V<(t2*4294967296+t1) / d+1:=by
  refine guess_ge h.tu.2 h.wv.1 ?_;rw[Nat.mul_add];have h5:((t2*4294967296+t1) / d+1)*(d*4294967296)=((t2*4294967296+t1) / d*d+d)*4294967296:=by rw[←Nat.mul_assoc,Nat.add_mul,Nat.one_mul]
  rw[h5];have:=h.small;omega
 omega
theorem Kn.g_le(h:Kn U V P d d2 t2 t1 t0)(k:Gs U V d t2 t1 g r):g≤4294967297:=by
 have h1:=h.top;have h2:=k.eq;have h3:=h.dd;rcases Nat.lt_or_ge 4294967297 g with h4 | h4
 ·have h5:4294967298*d≤g*d:=Nat.mul_le_mul_right _ (by omega);omega
 ·exact h4
theorem Kn.gd2(h:Kn U V P d d2 t2 t1 t0)(k:Gs U V d t2 t1 g r):g*d2<18446744073709551616:=by
 have h1:=h.g_le k;have h2:=h.small.1;have h3:g*d2≤4294967297*4294967295:=Nat.mul_le_mul h1 (by omega);omega
theorem Kn.less(h:Kn U V P d d2 t2 t1 t0)(k:Gs U V d t2 t1 g r)(hc:4294967296≤g∨r*4294967296+t0<g*d2):1≤g∧(g-1)*d+(r+d)=t2*4294967296+t1∧U / V≤g-1:=by
 have hg:1≤g:=by
  rcases hc with h1 | h1
  ·omega
  ·rcases Nat.eq_zero_or_pos g with h2 | h2
   ·subst h2;simp at h1
   ·exact h2
 refine⟨hg,?_,?_⟩
 ·obtain⟨m,rfl⟩:∃ m,g=m+1:=⟨g-1,by omega⟩
  have:=k.eq;rw[Nat.add_mul]at this;rw[Nat.add_sub_cancel];omega
 ·rcases hc with h1 | h1
  ·have:=h.div_lt;omega
  ·have h4:U / V<g:=by
    refine guess_ge h.tu.2 h.wv.1 ?_;rw[Nat.mul_add,←Nat.mul_assoc];exact guess_aB k.eq h1
   omega
theorem Kn.next(h:Kn U V P d d2 t2 t1 t0)(k:Gs U V d t2 t1 g r)(hc:4294967296≤g∨r*4294967296+t0<g*d2)(hr:r+d<4294967296):Gs U V d t2 t1 (g-1) (r+d):=
 ⟨(h.less k hc).2.1,(h.less k hc).2.2,hr⟩
theorem Kn.w_big(h:Kn U V P d d2 t2 t1 t0)(hg:g<4294967296):g≤d*4294967296+d2+1:=by have:=h.dd;omega
theorem Kn.brk(h:Kn U V P d d2 t2 t1 t0)(k:Gs U V d t2 t1 g r)(hc:4294967296≤g∨r*4294967296+t0<g*d2)(hr:4294967296≤r+d):U / V≤g-1∧g-1≤U / V+1∧g-1<4294967296:=by
 obtain⟨h1,h2,h3⟩:=h.less k hc;have h4:=h.top;have h5:=h.dd;have h6:g-1<4294967296:=by
  rcases Nat.lt_or_ge (g-1) 4294967296 with h7 | h7
  ·exact h7
  ·have h8:4294967296*d≤(g-1)*d:=Nat.mul_le_mul_right _ h7;omega
 refine⟨h3,?_,h6⟩;refine guess_le h.tu.1 h.wv.2 ?_ (h.w_big h6) h.v0;rw[Nat.mul_add,←Nat.mul_assoc];have h9:(g-1)*d2≤4294967296*4294967296:=Nat.mul_le_mul (by omega) (by have:=h.small;omega);exact guess_bB h2 (Nat.le_trans h9 (Nat.le_trans (Nat.mul_le_mul_right _ hr) (Nat.le_add_right _ _)))
theorem Kn.fine(h:Kn U V P d d2 t2 t1 t0)(k:Gs U V d t2 t1 g r)(hg:g<4294967296)(hc:g*d2≤r*4294967296+t0):U / V≤g∧g≤U / V+1∧g<4294967296:=by
 refine⟨k.low,?_,hg⟩;refine guess_le h.tu.1 h.wv.2 ?_ (h.w_big hg) h.v0;rw[Nat.mul_add,←Nat.mul_assoc];exact guess_bB k.eq hc
end
theorem digit_over{U V G X M:Nat}(hV:0<V)(h1:G≤U / V+1)(hlt:U<G*V)(hx:X+G*V=U+M)(hM:V≤M):G=U / V+1∧(X+V) % M=U % V:=by
 have h2:G=U / V+1:=by
  rcases Nat.lt_or_ge (U / V) G with h3 | h3
  ·omega
  ·have:=Nat.mul_le_mul_right V h3;have:=Nat.div_mul_le_self U V;omega
 refine⟨h2,?_⟩;have h4:=Nat.mod_add_div U V;have h5:=Nat.mod_lt U hV;subst h2;rw[Nat.add_mul,Nat.one_mul,Nat.mul_comm (U / V)]at hx;rw[show X+V=U % V+M by omega,Nat.add_mod_right,Nat.mod_eq_of_lt (by omega)]
theorem digit_fine{U V G X:Nat}(_hV:0<V)(h0:U / V≤G)(hx:X+G*V=U):G=U / V∧X=U % V:=by
 have h1:G≤U / V:=by rw[Nat.le_div_iff_mul_le _hV];omega
 have h2:G=U / V:=by omega
 have h4:=Nat.mod_add_div U V;rw[h2,Nat.mul_comm]at hx;exact⟨h2,by omega⟩
theorem high_zero{ul:List Nat}{V R k n:Nat}(hR:dval 4294967296 (ul.drop k)=R)(hRV:R<V)(hV:V≤4294967296^n)(hn:k+n≤ul.length):dval 4294967296 (ul.drop (k+n))=0:=by
 have h1:=dval_split (B:=4294967296) (l:=ul.drop k) n (by rw[List.length_drop];omega);rw[List.drop_drop,hR]at h1;rcases Nat.eq_zero_or_pos (dval 4294967296 (ul.drop (k+n)))with h2 | h2
 ·exact h2
 ·have:=Nat.le_mul_of_pos_right (4294967296^n) h2;omega
theorem win_eq{ul:List Nat}{j i:Nat}(hn:j+i≤ul.length)(hz:dval 4294967296 (ul.drop (j+i))=0):win ul j i=dval 4294967296 (ul.drop j):=by
 have h1:=dval_split (B:=4294967296) (l:=ul.drop j) i (by rw[List.length_drop];omega);rw[List.drop_drop,hz,Nat.mul_zero,Nat.add_zero]at h1;exact h1.symm
theorem kn_of{ul vl:List Nat}{V R j n:Nat}(hu:Dg 4294967296 ul)(hv:Dg 4294967296 vl)(hn:vl.length=n+2)(hV:dval 4294967296 vl=V)(htop:2147483648*4294967296^(n+1)≤V)(hlen:j+n+3≤ul.length)
  (hR:dval 4294967296 (ul.drop (j+1))=R) (hRV:R<V) (h1:n+1<vl.length) (h2:n<vl.length) (h3:j+(n+2)<ul.length) (h4:j+(n+1)<ul.length) (h5:j+n<ul.length):
  Kn (win ul j (n+3)) V (4294967296^n) vl[n+1] vl[n] ul[j+(n+2)] ul[j+(n+1)] ul[j+n]∧win ul j (n+3)=ul[j]+4294967296*R∧dval 4294967296 (ul.drop (j+(n+3)))=0:=by
 have hVl:V<4294967296^(n+2):=by rw[←hV,←hn];exact dval_lt hv
 have hz:dval 4294967296 (ul.drop (j+(n+3)))=0:=by
  have:=high_zero hR hRV (Nat.le_of_lt hVl) (by omega);rw[show j+1+(n+2)=j+(n+3)by omega]at this;exact this
 have hw:win ul j (n+3)=ul[j]+4294967296*R:=by
  rw[win_eq (by omega) hz,dval_drop (by omega),hR]
 have hv2:V=dval 4294967296 (vl.take n)+4294967296^n*(vl[n+1]*4294967296+vl[n]):=by
  rw[←hV]
  conv=>lhs;rw[←List.take_of_length_le (l:=vl) (i:=n+2) (by omega)]
  rw[dval_take_succ (by omega:n+1<vl.length),dval_take_succ (by omega:n<vl.length),Nat.pow_succ,Nat.mul_add,Nat.mul_assoc,Nat.mul_comm 4294967296 vl[n+1]];omega
 have hvl:=dval_lt (hv.take n);rw[List.length_take,Nat.min_eq_left (by omega)]at hvl;have hu2:win ul j (n+3)=win ul j n+4294967296^n*(ul[j+(n+2)]*4294967296*4294967296+ul[j+(n+1)]*4294967296+ul[j+n]):=by
  rw[win_succ (i:=n+2) (by omega),win_succ (i:=n+1) (by omega),win_succ (i:=n) (by omega)];have e1:(4294967296:Nat)^(n+1)=4294967296^n*4294967296:=by rw[Nat.pow_succ]
  have e2:(4294967296:Nat)^(n+2)=4294967296^n*4294967296*4294967296:=by rw[Nat.pow_succ,e1]
  rw[e1,e2];generalize 4294967296^n=P;rw[Nat.mul_add P,Nat.mul_add P,Nat.mul_assoc P 4294967296,Nat.mul_assoc P 4294967296,Nat.mul_assoc P (4294967296*4294967296)];rw[Nat.mul_comm 4294967296 ul[j+(n+1)],Nat.mul_comm (4294967296*4294967296) ul[j+(n+2)],←Nat.mul_assoc ul[j+(n+2)]];omega
 have hul:=win_lt hu j n;refine⟨⟨?_,by omega,?_,?_,⟨?_,hv _ (List.getElem_mem _)⟩,hv _ (List.getElem_mem _),hu _ (List.getElem_mem _),hu _ (List.getElem_mem _),hu _ (List.getElem_mem _)⟩,hw,hz⟩
 ·rw[hw];have:=hu ul[j] (List.getElem_mem _);omega
 ·rw[hu2,Nat.mul_comm (4294967296^n),Nat.add_mul (_+_+_) 1,Nat.one_mul];omega
 ·rw[hv2,Nat.mul_comm (4294967296^n),Nat.add_mul (_+_) 1,Nat.one_mul];omega
 ·
  rcases Nat.lt_or_ge vl[n+1] 2147483648 with h6 | h6
  ·exfalso;have h7:V<2147483648*4294967296^(n+1):=by
    rw[hv2,Nat.pow_succ];have h8:=hv vl[n] (List.getElem_mem _);have h9:4294967296^n*(vl[n+1]*4294967296+vl[n]+1)≤4294967296^n*(2147483648*4294967296):=Nat.mul_le_mul_left _ (by omega);rw[Nat.mul_add (4294967296^n) _ 1]at h9;have h10:2147483648*(4294967296^n*4294967296)=4294967296^n*(2147483648*4294967296):=by
     rw[←Nat.mul_assoc,Nat.mul_comm 2147483648,Nat.mul_assoc]
    omega
   omega
  ·exact h6
theorem long_step{A V R X j:Nat}{ul ul' ql ql':List Nat}(hA:A=dval 4294967296 (ul.take (j+1))+4294967296^(j+1)*(dval 4294967296 (ql.drop (j+1))*V+R))(hj:j<ul.length)(hU:X=ul[j]+4294967296*R)
  (ht:ul'.take j=ul.take j) (hq:dval 4294967296 (ql'.drop j)=X / V+4294967296*dval 4294967296 (ql.drop (j+1))):
  A=dval 4294967296 (ul'.take j)+4294967296^j*(dval 4294967296 (ql'.drop j)*V+X % V):=by
 rw[ht,hq,hA,dval_take_succ hj,Nat.pow_succ];have h1:(X / V+4294967296*dval 4294967296 (ql.drop (j+1)))*V+X % V=X+4294967296*(dval 4294967296 (ql.drop (j+1))*V):=by
  rw[Nat.add_mul,Nat.mul_assoc];have:=Nat.mod_add_div X V;rw[Nat.mul_comm]at this;omega
 rw[h1,hU];generalize 4294967296^j=P;rw[Nat.mul_assoc P,Nat.mul_add 4294967296,Nat.mul_add P,Nat.mul_add P,Nat.mul_add P];omega
def byL(n:Nat):List UInt8:=(digs 256 n).map UInt8.ofNat
theorem byte_nat{x:Nat}(h:x<256):(UInt8.ofNat x).toNat=x:=by
 rw[UInt8.toNat_ofNat'];omega
theorem byL_inj{n m:Nat}(h:byL n=byL m):n=m:=by
 refine digs_inj (B:=256) (by omega) ?_;have h2:(byL n).map UInt8.toNat=(byL m).map UInt8.toNat:=by rw[h]
 have e:∀ n,(byL n).map UInt8.toNat=digs 256 n:=fun n=>by
  unfold byL;rw[List.map_map]
  conv=>rhs;rw[←List.map_id (digs 256 n)]
  refine List.map_congr_left fun x hx=>?_;exact byte_nat (digs_dg (by omega) n x hx)
 rw[←e n,h2,e m]
def four(w:Nat):List Nat:=[w % 256,w / 256 % 256,w / 65536 % 256,w / 16777216 % 256]
theorem four_dg(w:Nat):Dg 256 (four w):=fun x hx=>by
 simp only[four,List.mem_cons,List.not_mem_nil,or_false]at hx;rcases hx with h | h | h | h<;>subst h<;>exact Nat.mod_lt _ (by omega)
theorem four_val{w:Nat}(h:w<4294967296):dval 256 (four w)=w:=by
 simp only[four,dval];omega
theorem raw_dg(l:List Nat):Dg 256 (l.flatMap four):=fun x hx=>by
 obtain⟨w,_,h⟩:=List.mem_flatMap.1 hx;exact four_dg w x h
theorem raw_val{l:List Nat}(h:Dg 4294967296 l):dval 256 (l.flatMap four)=dval 4294967296 l:=by
 induction l with
 | nil=>rfl
 | cons w r ih=>
   rw[List.flatMap_cons,dval_append,four_val (h w (by simp)),ih fun x hx=>h x (by simp[hx]),dval_cons];have e:(256:Nat)^(four w).length=4294967296:=by
    have:(four w).length=4:=rfl;rw[this]
   rw[e]
theorem raw_cut(n:Nat):cutz ((limbs n).flatMap four)=digs 256 n:=by
 have h:dval 256 ((limbs n).flatMap four)=n:=(raw_val (digs_dg (by omega) n)).trans (digs_val (by omega) n);rw[cutz_digs (by omega) (raw_dg _),h]
end Go.Proofs.YtbbpecfapohlaaaGreatDoor
