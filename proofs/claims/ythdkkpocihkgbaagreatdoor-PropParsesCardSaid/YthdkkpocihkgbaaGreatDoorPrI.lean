import Derived.Test.YthdkkpocihkgbaaGreatDoorLawE
import Derived.Test.YthdkkpocihkgbaaGreatDoorTb
set_option maxRecDepth 100000
set_option maxHeartbeats 4000000
namespace Go.Proofs.YthdkkpocihkgbaaGreatDoor
open Go.RowKit
attribute [local irreducible] AC Do St
theorem rC{l:List Tm}{i:Nat}(hi:i<l.length)(v:Int):ar (l.take (i+1)) v=ar (l.take i) v+(if l[i].1=v then l[i].2 else 0):=by
 rw[List.take_succ_eq_append_getElem hi,gy];simp only[ar];grind
theorem sgnR_zero{q:Rat}:cL q=0↔q=0:=by
 unfold cL;constructor
 ·intro h;split at h
  ·omega
  ·split at h
   ·rename_i h2;exact Rat.num_eq_zero.1 h2
   ·omega
 ·intro h;subst h;rfl
theorem CS(e:Ex)(v:Int)(hk:tb e.t+2≤50000000):Fn Tryz.prog 143 [.g (gi e),.d (.v (.int .i64 v))] [.g (aS (ar e.t v))]:=by
 have hlen:e.t.length≤50000000:=by have:=kJ e.t;omega
 refine Fn.of Tryz.func143 rfl (by kernel_rfl) Tryz.ntmps143 Tryz.results143 rfl fun w0 S0=>?_;refine wk ?_;(first | intro K ms hms hK | intro K hK);((first | apply Ch.go | apply Ch.ah);exact rfl;exact rfl;refine Loc.jh (pB 0 (by omega) (by omega)) rfl ?_;(repeat (first | exact trivial | refine⟨.inl rfl,?_⟩ | refine⟨.inr rfl,?_⟩)));refine wk ?_;refine AC.loop (X:=Nat) (fun i=>⟨[(1,.d (.v (.int .i64 v))),(4,.p 4 0),(5,.p 5 0),(10,.d (.l (e.t.map bO))),(11,.d (.v (.int .i64 (e.t.length:Int)))),(12,.d (.v (.int .i64 (i:Int))))],[(4,.box 136 [.d (.v (.bool false)),.d .n,.d .n]),(5,.box 136 ((aS (ar (e.t.take i) v)).map .d))]⟩) (fun i=>i≤e.t.length) (fun i=>e.t.length-i) 0 (Nat.zero_le _) ⟨rfl,rfl,rfl,rfl,rfl,rfl,trivial⟩ ⟨rfl,rfl,trivial⟩ ?_;intro i hi;refine wk ?_;(first | intro K ms hms hK | intro K hK);(first | refine Ch.lss rfl rfl rfl rfl rfl (fun h1=>?_) (fun h1=>?_) | refine Ch.xp rfl rfl rfl rfl rfl (fun h1=>?_) (fun h1=>?_))
 ·have hi':i<e.t.length:=by omega
  have hget:e.t[i]?=some e.t[i]:=List.getElem?_eq_getElem hi';have hct:=rC hi' v;have hmono:tb (e.t.take i)+1+bz e.t[i].2≤50000000:=by have:=sF hi';omega
  refine wk ?_;(first | intro K ms hms hK | intro K hK);(first | refine Ch.neq rfl rfl rfl rfl rfl (fun h2=>?_) (fun h2=>?_) | refine Ch.Dl rfl rfl rfl rfl rfl (fun h2=>?_) (fun h2=>?_))
  ·have hc':ar (e.t.take (i+1)) v=ar (e.t.take i) v:=by
    rw[hct,if_neg (by exact h2)];grind
   refine wk ?_;refine⟨i+1,by omega,by omega,⟨rfl,rfl,rfl,rfl,rfl,rfl,trivial⟩,⟨rfl,by rw[hc'];rfl,trivial⟩⟩
  ·have h2':e.t[i].1=v:=Classical.byContradiction fun h=>h2 h;rw[if_pos h2']at hct;refine wk ?_;(first | intro K ms hms hK | intro K hK);((first | apply Ch.go | apply Ch.ah);exact rfl;exact rfl;refine Loc.eI (oH (ar (e.t.take i) v)) rfl ?_;(repeat (first | exact trivial | refine⟨.inl rfl,?_⟩ | refine⟨.inr rfl,?_⟩)));(first | refine Ch.eql rfl rfl rfl rfl rfl (fun h3=>?_) (fun h3=>?_) | refine Ch.Ad rfl rfl rfl rfl rfl (fun h3=>?_) (fun h3=>?_))
   ·have hc':ar (e.t.take (i+1)) v=e.t[i].2:=by
     rw[hct,sgnR_zero.1 h3];grind
    refine wk ?_;refine⟨i+1,by omega,by omega,⟨rfl,rfl,rfl,rfl,rfl,rfl,trivial⟩,⟨rfl,by rw[hc'];rfl,trivial⟩⟩
   ·refine wk ?_;(first | intro K ms hms hK | intro K hK);((first | apply Ch.go | apply Ch.ah);exact rfl;exact rfl;refine Loc.jh (tA (qK (e.t.take i) v) (bw _) hmono) rfl ?_;(repeat (first | exact trivial | refine⟨.inl rfl,?_⟩ | refine⟨.inr rfl,?_⟩)));refine wk ?_;refine⟨i+1,by omega,by omega,⟨rfl,rfl,rfl,rfl,rfl,rfl,trivial⟩,⟨rfl,by rw[hct];rfl,trivial⟩⟩
 ·have hend:e.t.take i=e.t:=List.take_of_length_le (by omega);refine wk ?_;rw[hend];exact⟨.cn rfl rfl inferInstance rfl ⟨.inl rfl,.inl rfl,.inl rfl,trivial⟩,trivial⟩
theorem zG(l:List Tm):Form l↔∀ i (h:i<l.length),l[i].2≠0∧∀ h0:0<i,(l[i-1]).1<l[i].1:=by
 constructor
 ·intro ⟨h1,h2⟩ i h;refine⟨h2 _ (List.getElem_mem h),fun h0=>?_⟩;exact List.pairwise_iff_getElem.1 h1 (i-1) i (by omega) h (by omega)
 ·intro h;refine⟨?_,fun t ht=>?_⟩
  ·have key:∀ d i (h1:i+d+1<l.length),(l[i]'(by omega)).1<(l[i+d+1]).1:=by
    intro d
    induction d with
    | zero=>intro i h1;exact(h (i+1) h1).2 (by omega)
    | succ d ih=>
      intro i h1;have h2:=ih i (by omega);have h3:=(h (i+(d+1)+1) h1).2 (by omega);have e:i+(d+1)+1-1=i+d+1:=by omega
      simp only[e]at h3;omega
   refine List.pairwise_iff_getElem.2 fun i j hi hj hij=>?_;have:=key (j-i-1) i (by omega);have e:i+(j-i-1)+1=j:=by omega
   simp only[e]at this;exact this
  ·obtain⟨i,hi,rfl⟩:=List.getElem_of_mem ht;exact(h i hi).1
theorem Eo(e:Ex)(hl:e.t.length≤1000000)[Decidable (Form e.t)]:Fn Tryz.prog 155 [.g (gi e)] [.d (.v (.bool (decide (Form e.t))))]:=by
 have hf:=zG e.t;refine Fn.of Tryz.func155 rfl (by kernel_rfl) Tryz.ntmps155 Tryz.results155 rfl fun w0 S0=>?_;refine wk ?_;refine AC.loop (X:=Nat) (fun i=>⟨[(1,.p 1 0),(6,.d (.l (e.t.map bO))),(7,.d (.v (.int .i64 (e.t.length:Int)))),(8,.d (.v (.int .i64 (i:Int))))],[(1,.box 175 ((gi e).map .d))]⟩) (fun i=>i≤e.t.length∧∀ j (_:j<i) (h:j<e.t.length),e.t[j].2≠0∧∀ h0:0<j,(e.t[j-1]).1<e.t[j].1) (fun i=>e.t.length-i) 0 ⟨Nat.zero_le _,fun j h=>absurd h (by omega)⟩ ⟨rfl,rfl,rfl,rfl,trivial⟩ ⟨rfl,trivial⟩ ?_;intro i ⟨hi,hok⟩;refine wk ?_;(first | intro K ms hms hK | intro K hK);(first | refine Ch.lss rfl rfl rfl rfl rfl (fun hlt=>?_) (fun hlt=>?_) | refine Ch.xp rfl rfl rfl rfl rfl (fun hlt=>?_) (fun hlt=>?_))
 ·have hlt':i<e.t.length:=by omega
  have hget:e.t[i]?=some e.t[i]:=List.getElem?_eq_getElem hlt';refine wk ?_;(first | intro K ms hms hK | intro K hK);((first | apply Ch.go | apply Ch.ah);exact rfl;exact rfl;refine Loc.eI (oH e.t[i].2) rfl ?_;(repeat (first | exact trivial | refine⟨.inl rfl,?_⟩ | refine⟨.inr rfl,?_⟩)));(first | refine Ch.eql rfl rfl rfl rfl rfl (fun h0=>?_) (fun h0=>?_) | refine Ch.Ad rfl rfl rfl rfl rfl (fun h0=>?_) (fun h0=>?_))
  ·refine wk ?_;rw[decide_eq_false fun h=>(hf.1 h i hlt').1 (sgnR_zero.1 h0)];exact⟨.d rfl (.inl rfl),trivial⟩
  ·have h0':e.t[i].2≠0:=fun h=>h0 (sgnR_zero.2 h);refine wk ?_;(first | refine Ch.gtr rfl rfl rfl rfl rfl (fun h1=>?_) (fun h1=>?_) | refine Ch.Dp rfl rfl rfl rfl rfl (fun h1=>?_) (fun h1=>?_))
   ·obtain⟨i',rfl⟩:∃ i',i=i'+1:=⟨i-1,by omega⟩
    have hgp:e.t[i']?=some e.t[i']:=List.getElem?_eq_getElem (by omega);refine wk ?_;((first | apply Ch.go | apply Ch.ah);exact rfl;exact rfl;exact Loc.ea (i:=i') rfl rfl rfl (by omega) hgp rfl);refine wk ?_;(first | refine Ch.geq rfl rfl rfl rfl rfl (fun h2=>?_) (fun h2=>?_) | refine Ch.Dr rfl rfl rfl rfl rfl (fun h2=>?_) (fun h2=>?_))
    ·have h2':e.t[i'+1].1≤e.t[i'].1:=h2;refine wk ?_;rw[decide_eq_false fun h=>by
      have h3:(e.t[i']).1<e.t[i'+1].1:=(hf.1 h (i'+1) hlt').2 (by omega);omega]
     exact⟨.d rfl (.inl rfl),trivial⟩
    ·have h2':¬ e.t[i'+1].1≤e.t[i'].1:=h2;refine wk ?_;refine⟨i'+1+1,⟨by omega,fun j hj hj2=>?_⟩,by omega,⟨rfl,rfl,rfl,rfl,trivial⟩,⟨rfl,trivial⟩⟩;by_cases e':j=i'+1
     ·subst e';refine⟨h0',fun _=>?_⟩;show (e.t[i']).1<e.t[i'+1].1;omega
     ·exact hok j (by omega) hj2
   ·have hi0:i=0:=by omega
    subst hi0;refine wk ?_;refine⟨0+1,⟨by omega,fun j hj hj2=>?_⟩,by omega,⟨rfl,rfl,rfl,rfl,trivial⟩,⟨rfl,trivial⟩⟩;have:j=0:=by omega
    subst this;exact⟨h0',fun h=>absurd h (by omega)⟩
 ·refine wk ?_;rw[decide_eq_true (hf.2 fun j hj=>hok j (by omega) hj)];exact⟨.d rfl (.inl rfl),trivial⟩
end Go.Proofs.YthdkkpocihkgbaaGreatDoor
namespace Go.Proofs.YthdkkpocihkgbaaGreatDoor
open Go.RowKit
attribute [local irreducible] AC Do St
def bB(x:Int)(s:List Int×Bool)(v:Int):List Int×Bool:=
 let s1:=if s.2=false∧x≤v then(s.1++[x],true)else s
 if v≠x then(s1.1++[v],s1.2)else s1
def jG(out:List Int)(x:Int):List Int:=
 let s:=out.foldl (bB x) ([],false)
 if s.2 then s.1 else s.1++[x]
def dZ(vs:List Int)(l:List Tm):List Int:=l.foldl (fun o t=>jG o t.1) vs
def iD(es:List Ex):List Int:=es.foldl (fun o e=>dZ o e.t) []
theorem vj(x:Int)(s:List Int×Bool)(v:Int):(bB x s v).1.length≤s.1.length+2:=by
 unfold bB;simp only;split<;>split<;>simp
def C8(l:List Int):D:= .l (l.map fun v=>[.v (.int .i64 v)])
def pc(l:List Int):List (List D):=l.map fun v=>[.v (.int .i64 v)]
theorem mF{α β:Type}(f:β→α→β)(b:β){l:List α}{i:Nat}(hi:i<l.length):(l.take (i+1)).foldl f b=f ((l.take i).foldl f b) l[i]:=by
 rw[List.take_succ_eq_append_getElem hi,List.foldl_append];rfl
theorem o9(x:Int):∀ (out:List Int) (s:List Int×Bool),(out.foldl (bB x) s).1.length≤s.1.length+2*out.length
 | [],s=>by simp
 | v::r,s=>by
   have h1:=vj x s v;have h2:=o9 x r (bB x s v);simp only[List.foldl_cons,List.length_cons];omega
theorem xB(x:Int):∀ (out:List Int),out.Pairwise (· < ·)→jG out x=out.filter (· <x)++[x]++out.filter (x< ·):=by
 have skip:∀ (out:List Int) (a:List Int),(∀v∈out,x<v)→out.foldl (bB x) (a,true)=(a++out,true):=by
  intro out
  induction out with
  | nil=>intro a _;simp
  | cons v r ih=>
    intro a h;have hv:=h v (by simp);rw[List.foldl_cons];have:bB x (a,true) v=(a++[v],true):=by unfold bB;simp;omega
    rw[this,ih _ (fun u hu=>h u (by simp[hu]))];simp
 have key:∀ (out:List Int) (a:List Int),out.Pairwise (· < ·)→(let s:=out.foldl (bB x) (a,false);if s.2 then s.1 else s.1++[x])=a++out.filter (· <x)++[x]++out.filter (x< ·):=by
  intro out
  induction out with
  | nil=>intro a _;simp
  | cons v r ih=>
    intro a hp;obtain⟨h1,h2⟩:=List.pairwise_cons.1 hp;rw[List.foldl_cons];by_cases hlt:v<x
    ·have:bB x (a,false) v=(a++[v],false):=by
      unfold bB;have h3:¬ x≤v:=by omega
      have h4:v≠x:=by omega
      simp[h3,h4]
     rw[this];have:=ih (a++[v]) h2;simp only at this;rw[this];have h3:¬ x<v:=by omega
     simp[hlt,h3]
    ·have hall:∀ u∈r,x<u:=fun u hu=>by have:=h1 u hu;omega
     have hf1:r.filter (· <x)=[]:=List.filter_eq_nil_iff.2 fun u hu=>by have:=hall u hu;simp;omega
     have hf2:r.filter (x< ·)=r:=List.filter_eq_self.2 fun u hu=>by simpa using hall u hu
     by_cases he:v=x
     ·have:bB x (a,false) v=(a++[x],true):=by
       unfold bB;have h3:x≤v:=by omega
       simp[he]
      rw[this,skip r _ hall];simp[he,hf1,hf2]
     ·have hgt:x<v:=by omega
      have:bB x (a,false) v=(a++[x]++[v],true):=by
       unfold bB;have h3:x≤v:=by omega
       simp[h3,he]
      rw[this,skip r _ hall];simp[hlt,hgt,hf1,hf2]
 intro out hp;have:=key out [] hp;simpa[jG] using this
theorem vm{x:Int}{out:List Int}(h:out.Pairwise (· < ·)):(jG out x).Pairwise (· < ·)∧(∀v,v∈jG out x↔v=x∨v∈out)∧(jG out x).length≤out.length+1:=by
 rw[xB x out h];refine⟨?_,fun v=>?_,?_⟩
 ·rw[List.append_assoc,List.pairwise_append];refine⟨h.filter _,?_,fun a ha b hb=>?_⟩
  ·rw[List.singleton_append,List.pairwise_cons];exact⟨fun b hb=>by simpa using (List.mem_filter.1 hb).2,h.filter _⟩
  ·have h1:a<x:=by simpa using (List.mem_filter.1 ha).2
   rcases List.mem_append.1 hb with hb | hb
   ·have:b=x:=by simpa using hb
    omega
   ·have:x<b:=by simpa using (List.mem_filter.1 hb).2
    omega
 ·simp only[List.mem_append,List.mem_filter,List.mem_singleton,decide_eq_true_eq];constructor
  ·rintro ((⟨h1,_⟩ | h1) | ⟨h1,_⟩)
   ·exact .inr h1
   ·exact .inl h1
   ·exact .inr h1
  ·rintro (h1 | h1)
   ·exact .inl (.inr h1)
   ·rcases Int.lt_trichotomy v x with h2 | h2 | h2
    ·exact .inl (.inl ⟨h1,h2⟩)
    ·exact .inl (.inr h2)
    ·exact .inr ⟨h1,h2⟩
 ·have hc:∀ l:List Int,(l.filter (· <x)).length+(l.filter (x< ·)).length≤l.length:=by
   intro l
   induction l with
   | nil=>simp
   | cons a r ih=>
     simp only[List.filter_cons,List.length_cons];by_cases h1:a<x
     ·have h2:¬ x<a:=by omega
      simp[h1,h2];omega
     ·rw[if_neg (by simpa using h1)];split<;>(try simp only[List.length_cons])<;>omega
  have:=hc out;simp;omega
theorem mJ:∀ (l:List Tm) (vs:List Int),vs.Pairwise (· < ·)→(dZ vs l).Pairwise (· < ·)∧(∀v,v∈dZ vs l↔v∈vs∨∃ t∈l,t.1=v)∧(dZ vs l).length≤vs.length+l.length
 | [],vs,h=>⟨h,fun v=>by simp[dZ],by simp[dZ]⟩
 | t::l,vs,h=>by
   obtain⟨h1,h2,h3⟩:=vm (x:=t.1) h;obtain⟨q1,q2,q3⟩:=mJ l (jG vs t.1) h1;refine⟨q1,fun v=>?_,?_⟩
   ·show v∈dZ (jG vs t.1) l↔_;rw[q2,h2];constructor
    ·rintro ((h | h) | ⟨u,hu,hv⟩)
     ·exact .inr ⟨t,by simp,h.symm⟩
     ·exact .inl h
     ·exact .inr ⟨u,by simp[hu],hv⟩
    ·rintro (h | ⟨u,hu,hv⟩)
     ·exact .inl (.inr h)
     ·rcases List.mem_cons.1 hu with e | hu
      ·subst e;exact .inl (.inl hv.symm)
      ·exact .inr ⟨u,hu,hv⟩
   ·show (dZ (jG vs t.1) l).length≤_;simp only[List.length_cons];omega
def tot(es:List Ex):Nat:=(es.map fun e=>e.t.length).sum
theorem o7:∀ (es:List Ex) (vs:List Int),vs.Pairwise (· < ·)→(es.foldl (fun o e=>dZ o e.t) vs).Pairwise (· < ·)∧(∀v,v∈es.foldl (fun o e=>dZ o e.t) vs↔v∈vs∨∃ e∈es,∃t∈e.t,t.1=v)∧(es.foldl (fun o e=>dZ o e.t) vs).length≤vs.length+tot es
 | [],vs,h=>⟨h,fun v=>by simp,by simp[tot]⟩
 | e::es,vs,h=>by
   obtain⟨h1,h2,h3⟩:=mJ e.t vs h;obtain⟨q1,q2,q3⟩:=o7 es (dZ vs e.t) h1;refine⟨q1,fun v=>?_,?_⟩
   ·rw[List.foldl_cons,q2,h2];constructor
    ·rintro ((h | ⟨t,ht,hv⟩) | ⟨e',he,t,ht,hv⟩)
     ·exact .inl h
     ·exact .inr ⟨e,by simp,t,ht,hv⟩
     ·exact .inr ⟨e',by simp[he],t,ht,hv⟩
    ·rintro (h | ⟨e',he,t,ht,hv⟩)
     ·exact .inl (.inl h)
     ·rcases List.mem_cons.1 he with e2 | he
      ·subst e2;exact .inl (.inr ⟨t,ht,hv⟩)
      ·exact .inr ⟨e',he,t,ht,hv⟩
   ·rw[List.foldl_cons];simp only[tot,List.map_cons,List.sum_cons]at q3 ⊢;omega
theorem mo(es:List Ex):(iD es).Pairwise (· < ·)∧(∀v,v∈iD es↔∃ e∈es,∃t∈e.t,t.1=v)∧(iD es).length≤tot es:=by
 obtain⟨h1,h2,h3⟩:=o7 es [] .nil;exact⟨h1,fun v=>(h2 v).trans (by simp),Nat.le_trans h3 (by simp)⟩
theorem jC(l:List Int)(x:Int):pc (l++[x])=pc l++[[.v (.int .i64 x)]]:=by simp[pc]
end Go.Proofs.YthdkkpocihkgbaaGreatDoor
namespace Go.Proofs.YthdkkpocihkgbaaGreatDoor
open Go.RowKit
attribute [local irreducible] AC Do St
structure Sm(N k:Nat)(e:Ex):Prop where
 c:Bd k e.c
 t:∀ t∈e.t,Bd k t.2
 n:e.t.length≤N
theorem Sm.k{N k:Nat}:k+1≤(N+2)*(k+1):=Nat.le_mul_of_pos_left _ (by omega)
theorem Sm.len{N k:Nat}{e:Ex}(h:Sm N k e)(M:Nat)(hk:(N+2)*(k+1)≤M):e.t.length≤M:=by
 have:=h.n;have:N+2≤(N+2)*(k+1):=Nat.le_mul_of_pos_right _ (by omega);omega
end Go.Proofs.YthdkkpocihkgbaaGreatDoor
namespace Go.Proofs.YthdkkpocihkgbaaGreatDoor
open Go.RowKit
attribute [local irreducible] AC Do St
structure At where
 e:Ex
 op:Int
def fG(a:At):List D:=fc a.e++[.v (.int .i64 a.op)]
def iK(a:At):List D:=gi a.e++[.v (.int .i64 a.op)]
def k7(op:Int)(q:Rat):Bool:=if op=1 then decide (cL q≤0)else if op=2 then decide (cL q<0)else decide (cL q=0)
def je(op:Int):Prop:=1≤op∧op≤3
theorem xx(a:At)(h:je a.op):Fn Tryz.prog 73 [.g (fG a)] [.d (.v (.int .i64 0))]:=by
 obtain⟨h1,h2⟩:=h;refine Fn.of Tryz.func73 rfl (by kernel_rfl) Tryz.ntmps73 Tryz.results73 rfl fun w0 S0=>?_;refine wk ?_;exact⟨.d rfl (.inl rfl),trivial⟩
theorem BC(a:At)(h:¬ je a.op):Fn Tryz.prog 73 [.g (fG a)] [.d (.v (.int .i64 4))]:=by
 unfold je at h;refine Fn.of Tryz.func73 rfl (by kernel_rfl) Tryz.ntmps73 Tryz.results73 rfl fun w0 S0=>?_;refine wk ?_;refine s1 (fun h1=>?_) (fun h1=>?_)
 ·refine wk ?_;exact⟨.d rfl (.inl rfl),trivial⟩
 ·have h2:3<a.op:=by omega
  refine wk ?_;exact⟨.d rfl (.inl rfl),trivial⟩
theorem DW(op:Int)(q:Rat)(h:je op):Fn Tryz.prog 140 [.d (.v (.int .i64 op)),.g (aN q)] [.d (.v (.bool (k7 op q)))]:=by
 obtain⟨ho1,ho2⟩:=h;have key:∀ b:Bool,b=k7 op q→Fn Tryz.prog 140 [.d (.v (.int .i64 op)),.g (aN q)] [.d (.v (.bool b))]:=by
  intro b hb;refine Fn.of Tryz.func140 rfl (by kernel_rfl) Tryz.ntmps140 Tryz.results140 rfl fun w0 S0=>?_;refine wk ?_;refine c1 (oQ q) ?_;refine wk ?_;refine s1 (fun h1=>?_) (fun h1=>?_)
  ·refine wk ?_;refine s1 (fun h2=>?_) (fun h2=>?_)
   ·have:b=true:=by
     rw[hb];unfold k7;rw[h1];have:op=1∨op=3:=by omega
     rcases this with h | h<;>simp[h]
    refine wk ?_;rw[this];exact⟨.d rfl (.inl rfl),trivial⟩
   ·have h2':op=2:=Classical.byContradiction h2;have:b=false:=by rw[hb];unfold k7;rw[h1];simp[h2']
    refine wk ?_;rw[this];exact⟨.d rfl (.inl rfl),trivial⟩
  ·refine wk ?_;refine s1 (fun h2=>?_) (fun h2=>?_)
   ·refine wk ?_;refine s1 (fun h3=>?_) (fun h3=>?_)
    ·have:b=true:=by
      rw[hb];unfold k7;have:op=1∨op=2:=by omega
      rcases this with h | h
      ·simp[h];omega
      ·simp[h,h2]
     refine wk ?_;rw[this];exact⟨.d rfl (.inl rfl),trivial⟩
    ·have h3':op=3:=Classical.byContradiction h3;have:b=false:=by rw[hb];unfold k7;simp[h3',h1]
     refine wk ?_;rw[this];exact⟨.d rfl (.inl rfl),trivial⟩
   ·have:b=false:=by
     rw[hb];unfold k7;have:op=1∨op=2∨op=3:=by omega
     rcases this with h | h | h
     ·simp[h];omega
     ·simp[h];omega
     ·simp[h,h1]
    refine wk ?_;rw[this];exact⟨.d rfl (.inl rfl),trivial⟩
 exact key _ rfl
end Go.Proofs.YthdkkpocihkgbaaGreatDoor
namespace Go.Proofs.YthdkkpocihkgbaaGreatDoor
open Go.RowKit
attribute [local irreducible] AC Do St
structure PP where
 box:List (Rat×Rat)
 ats:List At
 bad:FT
def fe(s:Rat×Rat):List D:=aN s.1++aN s.2
def jK(s:Rat×Rat):List D:=aS s.1++aS s.2
def fi(p:PP):List D:=[.l (p.box.map fe),.l (p.ats.map fG)]++aM p.bad
def dN(p:PP):List D:=[.l (p.box.map jK),.l (p.ats.map iK)]++aM p.bad
def kb:List (Rat×Rat)→List Rat→Bool
 | [],[]=>true
 | s::b,x::r=>!(decide (cL (x-s.1)<0)||decide (0<cL (x-s.2)))&&kb b r
 | _,_=>false
theorem vr:∀ (b:List (Rat×Rat)) (x:List Rat),x.length≠b.length→kb b x=false
 | [],[],h=>absurd rfl h
 | [],_::_,_=>rfl
 | _::_,[],_=>rfl
 | s::b,q::x,h=>by
   rw[kb,vr b x (fun e=>h (by simp[e])),Bool.and_false]
def lJ(k:Nat)(p:PP):Prop:=(∀s∈p.box,Bd k s.1∧Bd k s.2)∧p.box.length≤1000000
theorem AX{k m:Nat}(p:PP)(x:List Rat)(hp:lJ k p)(hx:∀ q∈x,Bd m q)(hk:m+k≤50000000):Fn Tryz.prog 37 [.g (fi p),.d (.l (x.map aN))] [.d (.v (.bool (kb p.box x)))]:=by
 obtain⟨hb,hbl⟩:=hp;obtain⟨bx,ats,bad⟩:=p;dsimp only at hb hbl;obtain⟨R,hR⟩:∃ R,kb bx x=R:=⟨_,rfl⟩
 rw[show fi ⟨bx,ats,bad⟩=[.l (bx.map fe),.l (ats.map fG)]++aM bad from rfl,show kb (⟨bx,ats,bad⟩:PP).box x=R from hR];by_cases hl:x.length=bx.length
 rotate_left
 ·rw[vr bx x hl]at hR;subst hR;refine Fn.of Tryz.func37 rfl (by kernel_rfl) Tryz.ntmps37 Tryz.results37 rfl fun w0 S0=>?_;refine wk ?_;exact⟨.d rfl (.inl rfl),trivial⟩
 refine Fn.of Tryz.func37 rfl (by kernel_rfl) Tryz.ntmps37 Tryz.results37 rfl fun w0 S0=>?_;refine wk ?_;refine AC.loop (X:=Nat) (fun i=>⟨[(1,.d (.l (x.map aN))),(14,.d (.l (bx.map fe))),(15,.d (.v (.int .i64 (bx.length:Int)))),(16,.d (.v (.int .i64 (i:Int))))],[]⟩) (fun i=>i≤bx.length∧kb (bx.drop i) (x.drop i)=R) (fun i=>bx.length-i) 0 ⟨Nat.zero_le _,hR⟩ ⟨rfl,rfl,rfl,rfl,trivial⟩ trivial ?_;intro i ⟨hi,hgo⟩;dsimp only at hi hgo ⊢;refine wk ?_;refine s1 (fun g1=>?_) (fun g1=>?_)
 ·have hi1:i<bx.length:=by omega
  have hi2:i<x.length:=by omega
  have hs:bx[i]?=some bx[i]:=List.getElem?_eq_getElem hi1;have hq:x[i]?=some x[i]:=List.getElem?_eq_getElem hi2;rw[List.drop_eq_getElem_cons hi1,List.drop_eq_getElem_cons hi2,kb]at hgo;obtain⟨b1,b2⟩:=hb _ (List.getElem_mem hi1);have b3:=hx _ (List.getElem_mem hi2);generalize bx[i]=s at hs hgo b1 b2;generalize x[i]=q at hq hgo b3;obtain⟨lo,hi⟩:=s;dsimp only at hgo b1 b2;have c1':=tQ b3 b1 hk;have c2':=tQ b3 b2 hk;generalize cL (q-lo)=u at c1' hgo;generalize cL (q-hi)=v at c2' hgo;by_cases h1:u<0
  ·rw[decide_eq_true h1,Bool.true_or,Bool.not_true,Bool.false_and]at hgo;subst hgo;refine wk ?_;refine c1 c1' ?_;refine wk ?_;exact⟨.d rfl (.inl rfl),trivial⟩
  rw[decide_eq_false h1,Bool.false_or]at hgo;by_cases h2:0<v
  ·rw[decide_eq_true h2,Bool.not_true,Bool.false_and]at hgo;subst hgo;refine wk ?_;refine c1 c1' ?_;refine wk ?_;refine c1 c2' ?_;refine wk ?_;exact⟨.d rfl (.inl rfl),trivial⟩
  rw[decide_eq_false h2,Bool.not_false,Bool.true_and]at hgo;refine wk ?_;refine c1 c1' ?_;refine wk ?_;refine c1 c2' ?_;refine wk ?_;exact⟨i+1,⟨hi1,hgo⟩,by omega,⟨rfl,rfl,rfl,rfl,trivial⟩,trivial⟩
 ·have e1:bx.drop i=[]:=List.drop_of_length_le (by omega);have e2:x.drop i=[]:=List.drop_of_length_le (by omega);rw[e1,e2,kb]at hgo;subst hgo;refine wk ?_;exact⟨.d rfl (.inl rfl),trivial⟩
