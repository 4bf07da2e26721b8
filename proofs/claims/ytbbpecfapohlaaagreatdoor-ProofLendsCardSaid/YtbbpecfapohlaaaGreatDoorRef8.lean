import Derived.Test.YtbbpecfapohlaaaGreatDoorLawE
import Derived.Test.YtbbpecfapohlaaaGreatDoorTb
set_option maxRecDepth 100000
set_option maxHeartbeats 2000000
namespace Go.Proofs.YtbbpecfapohlaaaGreatDoor
open Go.RowKit
attribute [local irreducible] AC Do St
theorem coef_take{l:List Tm}{i:Nat}(hi:i<l.length)(v:Int):coef (l.take (i+1)) v=coef (l.take i) v+(if l[i].1=v then l[i].2 else 0):=by
 rw[List.take_succ_eq_append_getElem hi,coef_append];simp only[coef];grind
theorem coef_bd{k:Nat}{l:List Tm}(h:∀ t∈l,Bd k t.2)(v:Int):∀ i,i≤l.length→Bd ((i+1)*(k+1)) (coef (l.take i) v):=by
 intro i
 induction i with
 | zero=>intro _;simp only[List.take_zero,coef];exact Bd.zero (by omega)
 | succ i ih=>
   intro hi;have h1:=ih (by omega);rw[coef_take (by omega)];have e:(i+1+1)*(k+1)=(i+1)*(k+1)+k+1:=by rw[Nat.add_mul (i+1) 1];omega
   rw[e];split
   ·exact h1.add (h _ (List.getElem_mem _))
   ·have:coef (l.take i) v+0=coef (l.take i) v:=by grind
    rw[this];exact h1.mono (by omega)
theorem sgnR_zero{q:Rat}:sgnR q=0↔q=0:=by
 unfold sgnR;constructor
 ·intro h;split at h
  ·omega
  ·split at h
   ·rename_i h2;exact Rat.num_eq_zero.1 h2
   ·omega
 ·intro h;subst h;rfl
theorem coefTQ(e:Ex)(v:Int)(hk:tb e.t+2≤50000000):Fn Tryz.prog 165 [.g (enEQ e),.d (.v (.int .i64 v))] [.g (enQ (coef e.t v))]:=by
 have hlen:e.t.length≤50000000:=by have:=tb_len e.t;omega
 refine Fn.of Tryz.func165 rfl (by kernel_rfl) Tryz.ntmps165 Tryz.results165 rfl fun w0 S0=>?_;refine wk ?_;(first | intro K ms hms hK | intro K hK);((first | apply Chain.go | apply Chain.goD);exact rfl;exact rfl;refine Loc.callG (qInt 0 (by omega) (by omega)) rfl ?_;(repeat (first | exact trivial | refine⟨.inl rfl,?_⟩ | refine⟨.inr rfl,?_⟩)));refine wk ?_;refine AC.loop (X:=Nat) (fun i=>⟨[(1,.d (.v (.int .i64 v))),(4,.p 4 0),(5,.p 5 0),(10,.d (.l (e.t.map enTQ))),(11,.d (.v (.int .i64 (e.t.length:Int)))),(12,.d (.v (.int .i64 (i:Int))))],[(4,.box 136 [.d (.v (.bool false)),.d .n,.d .n]),(5,.box 136 ((enQ (coef (e.t.take i) v)).map .d))]⟩) (fun i=>i≤e.t.length) (fun i=>e.t.length-i) 0 (Nat.zero_le _) ⟨rfl,rfl,rfl,rfl,rfl,rfl,trivial⟩ ⟨rfl,rfl,trivial⟩ ?_;intro i hi;refine wk ?_;(first | intro K ms hms hK | intro K hK);(first | refine Chain.lss rfl rfl rfl rfl rfl (fun h1=>?_) (fun h1=>?_) | refine Chain.lssD rfl rfl rfl rfl rfl (fun h1=>?_) (fun h1=>?_))
 ·have hi':i<e.t.length:=by omega
  have hget:e.t[i]?=some e.t[i]:=List.getElem?_eq_getElem hi';have hct:=coef_take hi' v;have hmono:tb (e.t.take i)+1+bz e.t[i].2≤50000000:=by have:=tb_at hi';omega
  refine wk ?_;(first | intro K ms hms hK | intro K hK);(first | refine Chain.neq rfl rfl rfl rfl rfl (fun h2=>?_) (fun h2=>?_) | refine Chain.neqD rfl rfl rfl rfl rfl (fun h2=>?_) (fun h2=>?_))
  ·have hc':coef (e.t.take (i+1)) v=coef (e.t.take i) v:=by
    rw[hct,if_neg (by exact h2)];grind
   refine wk ?_;refine⟨i+1,by omega,by omega,⟨rfl,rfl,rfl,rfl,rfl,rfl,trivial⟩,⟨rfl,by rw[hc'];rfl,trivial⟩⟩
  ·have h2':e.t[i].1=v:=Classical.byContradiction fun h=>h2 h;rw[if_pos h2']at hct;refine wk ?_;(first | intro K ms hms hK | intro K hK);((first | apply Chain.go | apply Chain.goD);exact rfl;exact rfl;refine Loc.callD (qSign (coef (e.t.take i) v)) rfl ?_;(repeat (first | exact trivial | refine⟨.inl rfl,?_⟩ | refine⟨.inr rfl,?_⟩)));(first | refine Chain.eql rfl rfl rfl rfl rfl (fun h3=>?_) (fun h3=>?_) | refine Chain.eqlD rfl rfl rfl rfl rfl (fun h3=>?_) (fun h3=>?_))
   ·have hc':coef (e.t.take (i+1)) v=e.t[i].2:=by
     rw[hct,sgnR_zero.1 h3];grind
    refine wk ?_;refine⟨i+1,by omega,by omega,⟨rfl,rfl,rfl,rfl,rfl,rfl,trivial⟩,⟨rfl,by rw[hc'];rfl,trivial⟩⟩
   ·refine wk ?_;(first | intro K ms hms hK | intro K hK);((first | apply Chain.go | apply Chain.goD);exact rfl;exact rfl;refine Loc.callG (qAdd (coef_tb (e.t.take i) v) (bd_bz _) hmono) rfl ?_;(repeat (first | exact trivial | refine⟨.inl rfl,?_⟩ | refine⟨.inr rfl,?_⟩)));refine wk ?_;refine⟨i+1,by omega,by omega,⟨rfl,rfl,rfl,rfl,rfl,rfl,trivial⟩,⟨rfl,by rw[hct];rfl,trivial⟩⟩
 ·have hend:e.t.take i=e.t:=List.take_of_length_le (by omega);refine wk ?_;rw[hend];exact⟨.cn rfl rfl inferInstance rfl ⟨.inl rfl,.inl rfl,.inl rfl,trivial⟩,trivial⟩
theorem coefQ(e:Ex)(v:Int)(k:Nat)(ht:∀ t∈e.t,Bd k t.2)(hk:(e.t.length+2)*(k+1)≤50000000):Fn Tryz.prog 165 [.g (enEQ e),.d (.v (.int .i64 v))] [.g (enQ (coef e.t v))]:=coefTQ e v (by
 have:=tb_bd ht;have e1:(e.t.length+2)*(k+1)=e.t.length*(k+1)+2*(k+1):=Nat.add_mul ..;omega)
theorem form_iff(l:List Tm):Form l↔∀ i (h:i<l.length),l[i].2≠0∧∀ h0:0<i,(l[i-1]).1<l[i].1:=by
 constructor
 ·intro ⟨h1,h2⟩ i h;refine⟨h2 _ (List.getElem_mem h),fun h0=>?_⟩;exact List.pairwise_iff_getElem.1 h1 (i-1) i (by omega) h (by omega)
 ·intro h;refine⟨?_,fun t ht=>?_⟩
  ·have key:∀ d i (h1:i+d+1<l.length),(l[i]'(by omega)).1<(l[i+d+1]).1:=by
    intro d
    induction d with
    | zero=>intro i h1;exact(h (i+1) h1).2 (by omega)
    | succ d ih=>
      intro i h1;have h2:=ih i (by omega);have h3:=(h (i+(d+1)+1) h1).2 (by omega);have e:i+(d+1)+1-1=i+d+1:=by omega
      simp only[e]at h3;omega
   refine List.pairwise_iff_getElem.2 fun i j hi hj hij=>?_;have:=key (j-i-1) i (by omega);have e:i+(j-i-1)+1=j:=by omega
   simp only[e]at this;exact this
  ·obtain⟨i,hi,rfl⟩:=List.getElem_of_mem ht;exact(h i hi).1
theorem formQ(e:Ex)(hl:e.t.length≤1000000)[Decidable (Form e.t)]:Fn Tryz.prog 76 [.g (enEQ e)] [.d (.v (.bool (decide (Form e.t))))]:=by
 have hf:=form_iff e.t;refine Fn.of Tryz.func76 rfl (by kernel_rfl) Tryz.ntmps76 Tryz.results76 rfl fun w0 S0=>?_;refine wk ?_;refine AC.loop (X:=Nat) (fun i=>⟨[(1,.p 1 0),(6,.d (.l (e.t.map enTQ))),(7,.d (.v (.int .i64 (e.t.length:Int)))),(8,.d (.v (.int .i64 (i:Int))))],[(1,.box 140 ((enEQ e).map .d))]⟩) (fun i=>i≤e.t.length∧∀ j (_:j<i) (h:j<e.t.length),e.t[j].2≠0∧∀ h0:0<j,(e.t[j-1]).1<e.t[j].1) (fun i=>e.t.length-i) 0 ⟨Nat.zero_le _,fun j h=>absurd h (by omega)⟩ ⟨rfl,rfl,rfl,rfl,trivial⟩ ⟨rfl,trivial⟩ ?_;intro i ⟨hi,hok⟩;refine wk ?_;(first | intro K ms hms hK | intro K hK);(first | refine Chain.lss rfl rfl rfl rfl rfl (fun hlt=>?_) (fun hlt=>?_) | refine Chain.lssD rfl rfl rfl rfl rfl (fun hlt=>?_) (fun hlt=>?_))
 ·have hlt':i<e.t.length:=by omega
  have hget:e.t[i]?=some e.t[i]:=List.getElem?_eq_getElem hlt';refine wk ?_;(first | intro K ms hms hK | intro K hK);((first | apply Chain.go | apply Chain.goD);exact rfl;exact rfl;refine Loc.callD (qSign e.t[i].2) rfl ?_;(repeat (first | exact trivial | refine⟨.inl rfl,?_⟩ | refine⟨.inr rfl,?_⟩)));(first | refine Chain.eql rfl rfl rfl rfl rfl (fun h0=>?_) (fun h0=>?_) | refine Chain.eqlD rfl rfl rfl rfl rfl (fun h0=>?_) (fun h0=>?_))
  ·refine wk ?_;rw[decide_eq_false fun h=>(hf.1 h i hlt').1 (sgnR_zero.1 h0)];exact⟨.d rfl (.inl rfl),trivial⟩
  ·have h0':e.t[i].2≠0:=fun h=>h0 (sgnR_zero.2 h);refine wk ?_;(first | refine Chain.gtr rfl rfl rfl rfl rfl (fun h1=>?_) (fun h1=>?_) | refine Chain.gtrD rfl rfl rfl rfl rfl (fun h1=>?_) (fun h1=>?_))
   ·obtain⟨i',rfl⟩:∃ i',i=i'+1:=⟨i-1,by omega⟩
    have hgp:e.t[i']?=some e.t[i']:=List.getElem?_eq_getElem (by omega);refine wk ?_;((first | apply Chain.go | apply Chain.goD);exact rfl;exact rfl;exact Loc.idxM (i:=i') rfl rfl rfl (by omega) hgp rfl);refine wk ?_;(first | refine Chain.geq rfl rfl rfl rfl rfl (fun h2=>?_) (fun h2=>?_) | refine Chain.geqD rfl rfl rfl rfl rfl (fun h2=>?_) (fun h2=>?_))
    ·have h2':e.t[i'+1].1≤e.t[i'].1:=h2;refine wk ?_;rw[decide_eq_false fun h=>by
      have h3:(e.t[i']).1<e.t[i'+1].1:=(hf.1 h (i'+1) hlt').2 (by omega);omega]
     exact⟨.d rfl (.inl rfl),trivial⟩
    ·have h2':¬ e.t[i'+1].1≤e.t[i'].1:=h2;refine wk ?_;refine⟨i'+1+1,⟨by omega,fun j hj hj2=>?_⟩,by omega,⟨rfl,rfl,rfl,rfl,trivial⟩,⟨rfl,trivial⟩⟩;by_cases e':j=i'+1
     ·subst e';refine⟨h0',fun _=>?_⟩;show (e.t[i']).1<e.t[i'+1].1;omega
     ·exact hok j (by omega) hj2
   ·have hi0:i=0:=by omega
    subst hi0;refine wk ?_;refine⟨0+1,⟨by omega,fun j hj hj2=>?_⟩,by omega,⟨rfl,rfl,rfl,rfl,trivial⟩,⟨rfl,trivial⟩⟩;have:j=0:=by omega
    subst this;exact⟨h0',fun h=>absurd h (by omega)⟩
 ·refine wk ?_;rw[decide_eq_true (hf.2 fun j hj=>hok j (by omega) hj)];exact⟨.d rfl (.inl rfl),trivial⟩
def evQ(e:Ex)(p:List Rat):Nat→Rat
 | 0=>e.c
 | i+1=>evQ e p i+coef e.t (i:Int)*p.getD i 0
theorem evQ_bd{k:Nat}{e:Ex}{p:List Rat}(hc:Bd k e.c)(ht:∀ t∈e.t,Bd k t.2)(hp:∀ q∈p,Bd k q):∀ i,i≤p.length→Bd ((i+1)*((e.t.length+2)*(k+1)+k+1)) (evQ e p i):=by
 intro i
 induction i with
 | zero=>intro _;exact hc.mono (by omega)
 | succ i ih=>
   intro hi;have h1:=ih (by omega);have h2:Bd ((e.t.length+1)*(k+1)) (coef e.t (i:Int)):=by
    have:=coef_bd ht (i:Int) e.t.length (Nat.le_refl _);rwa[List.take_length]at this
   have h3:Bd k (p.getD i 0):=by
    rw[List.getD_eq_getElem?_getD,List.getElem?_eq_getElem (by omega)];exact hp _ (List.getElem_mem _)
   refine(h1.add (h2.mul h3)).mono ?_;have e1:(i+1+1)*((e.t.length+2)*(k+1)+k+1)=(i+1)*((e.t.length+2)*(k+1)+k+1)+((e.t.length+2)*(k+1)+k+1):=by rw[Nat.add_mul (i+1) 1];omega
   have e2:(e.t.length+1)*(k+1)≤(e.t.length+2)*(k+1):=Nat.mul_le_mul_right _ (by omega);omega
theorem evalQ(e:Ex)(p:List Rat)(k:Nat)(hc:Bd k e.c)(ht:∀ t∈e.t,Bd k t.2)(hp:∀ q∈p,Bd k q)(hk:(p.length+2)*((e.t.length+2)*(k+1)+k+1)≤50000000):Fn Tryz.prog 134 [.g (enEQ e),.d (.l (p.map enQ))] [.g (enQ (evQ e p p.length))]:=by
 have hbd:=evQ_bd hc ht hp;have hlen:p.length≤50000000:=Nat.le_trans (Nat.le_trans (by omega) (Nat.le_mul_of_pos_right (p.length+2) (by omega:0<(e.t.length+2)*(k+1)+k+1))) hk;have hk2:(e.t.length+2)*(k+1)+k+1≤50000000:=Nat.le_trans (Nat.le_mul_of_pos_left _ (by omega:0<p.length+2)) hk;refine Fn.of Tryz.func134 rfl (by kernel_rfl) Tryz.ntmps134 Tryz.results134 rfl fun w0 S0=>?_;refine wk ?_;refine AC.loop (X:=Nat) (fun i=>⟨[(1,.d (.l (p.map enQ))),(2,.p 2 0),(4,.p 4 0),(5,.p 5 0),(10,.d (.v (.int .i64 (p.length:Int)))),(11,.d (.v (.int .i64 (i:Int))))],[(2,.box 140 ((enEQ e).map .d)),(4,.box 136 [.d (.v (.bool false)),.d .n,.d .n]),(5,.box 136 ((enQ (evQ e p i)).map .d))]⟩) (fun i=>i≤p.length) (fun i=>p.length-i) 0 (Nat.zero_le _) ⟨rfl,rfl,rfl,rfl,rfl,rfl,trivial⟩ ⟨rfl,rfl,rfl,trivial⟩ ?_;intro i hi;refine wk ?_;(first | intro K ms hms hK | intro K hK);(first | refine Chain.lss rfl rfl rfl rfl rfl (fun h1=>?_) (fun h1=>?_) | refine Chain.lssD rfl rfl rfl rfl rfl (fun h1=>?_) (fun h1=>?_))
 ·have hi':i<p.length:=by omega
  have hget:p[i]?=some p[i]:=List.getElem?_eq_getElem hi';have hgD:p.getD i 0=p[i]:=by rw[List.getD_eq_getElem?_getD,hget];rfl
  have h2:Bd ((e.t.length+1)*(k+1)) (coef e.t (i:Int)):=by
   have:=coef_bd ht (i:Int) e.t.length (Nat.le_refl _);rwa[List.take_length]at this
  have e2:(e.t.length+1)*(k+1)+(k+1)=(e.t.length+2)*(k+1):=by rw[Nat.add_mul (e.t.length+1) 1];omega
  have h3:Bd k p[i]:=hp _ (List.getElem_mem hi');have hb2:(i+1)*((e.t.length+2)*(k+1)+k+1)+((e.t.length+1)*(k+1)+k)≤50000000:=by
   have q1:(i+1+1)*((e.t.length+2)*(k+1)+k+1)≤(p.length+2)*((e.t.length+2)*(k+1)+k+1):=Nat.mul_le_mul_right _ (by omega);have q2:(i+1+1)*((e.t.length+2)*(k+1)+k+1)=(i+1)*((e.t.length+2)*(k+1)+k+1)+((e.t.length+2)*(k+1)+k+1):=by rw[Nat.add_mul (i+1) 1];omega
   omega
  refine wk ?_;(first | intro K ms hms hK | intro K hK);((first | apply Chain.go | apply Chain.goD);exact rfl;exact rfl;refine Loc.callG (coefQ e (i:Int) k ht (by omega)) rfl ?_;(repeat (first | exact trivial | refine⟨.inl rfl,?_⟩ | refine⟨.inr rfl,?_⟩)));refine wk ?_;((first | apply Chain.go | apply Chain.goD);exact rfl;exact rfl;refine Loc.callG (qMul h2 h3 (by omega)) rfl ?_;(repeat (first | exact trivial | refine⟨.inl rfl,?_⟩ | refine⟨.inr rfl,?_⟩)));refine wk ?_;((first | apply Chain.go | apply Chain.goD);exact rfl;exact rfl;refine Loc.callG (qAdd (hbd i hi) (h2.mul h3) hb2) rfl ?_;(repeat (first | exact trivial | refine⟨.inl rfl,?_⟩ | refine⟨.inr rfl,?_⟩)));refine wk ?_;refine⟨i+1,by omega,by omega,⟨rfl,rfl,rfl,rfl,rfl,rfl,trivial⟩,⟨rfl,rfl,by rw[evQ,hgD];rfl,trivial⟩⟩
 ·have hend:i=p.length:=by omega
  refine wk ?_;rw[←hend];exact⟨.cn rfl rfl inferInstance rfl ⟨.inl rfl,.inl rfl,.inl rfl,trivial⟩,trivial⟩
end Go.Proofs.YtbbpecfapohlaaaGreatDoor
namespace Go.Proofs.YtbbpecfapohlaaaGreatDoor
open Go.RowKit
attribute [local irreducible] AC Do St
def insStep(x:Int)(s:List Int×Bool)(v:Int):List Int×Bool:=
 let s1:=if s.2=false∧x≤v then(s.1++[x],true)else s
 if v≠x then(s1.1++[v],s1.2)else s1
def insV(out:List Int)(x:Int):List Int:=
 let s:=out.foldl (insStep x) ([],false)
 if s.2 then s.1 else s.1++[x]
def varsT(vs:List Int)(l:List Tm):List Int:=l.foldl (fun o t=>insV o t.1) vs
def varsE(es:List Ex):List Int:=es.foldl (fun o e=>varsT o e.t) []
theorem insStep_len(x:Int)(s:List Int×Bool)(v:Int):(insStep x s v).1.length≤s.1.length+2:=by
 unfold insStep;simp only;split<;>split<;>simp
def enI(l:List Int):D:= .l (l.map fun v=>[.v (.int .i64 v)])
def ivs(l:List Int):List (List D):=l.map fun v=>[.v (.int .i64 v)]
theorem foldl_take{α β:Type}(f:β→α→β)(b:β){l:List α}{i:Nat}(hi:i<l.length):(l.take (i+1)).foldl f b=f ((l.take i).foldl f b) l[i]:=by
 rw[List.take_succ_eq_append_getElem hi,List.foldl_append];rfl
theorem insFold_len(x:Int):∀ (out:List Int) (s:List Int×Bool),(out.foldl (insStep x) s).1.length≤s.1.length+2*out.length
 | [],s=>by simp
 | v::r,s=>by
   have h1:=insStep_len x s v;have h2:=insFold_len x r (insStep x s v);simp only[List.foldl_cons,List.length_cons];omega
theorem insV_spec(x:Int):∀ (out:List Int),out.Pairwise (· < ·)→insV out x=out.filter (· <x)++[x]++out.filter (x< ·):=by
 have skip:∀ (out:List Int) (a:List Int),(∀v∈out,x<v)→out.foldl (insStep x) (a,true)=(a++out,true):=by
  intro out
  induction out with
  | nil=>intro a _;simp
  | cons v r ih=>
    intro a h;have hv:=h v (by simp);rw[List.foldl_cons];have:insStep x (a,true) v=(a++[v],true):=by unfold insStep;simp;omega
    rw[this,ih _ (fun u hu=>h u (by simp[hu]))];simp
 have key:∀ (out:List Int) (a:List Int),out.Pairwise (· < ·)→(let s:=out.foldl (insStep x) (a,false);if s.2 then s.1 else s.1++[x])=a++out.filter (· <x)++[x]++out.filter (x< ·):=by
  intro out
  induction out with
  | nil=>intro a _;simp
  | cons v r ih=>
    intro a hp;obtain⟨h1,h2⟩:=List.pairwise_cons.1 hp;rw[List.foldl_cons];by_cases hlt:v<x
    ·have:insStep x (a,false) v=(a++[v],false):=by
      unfold insStep;have h3:¬ x≤v:=by omega
      have h4:v≠x:=by omega
      simp[h3,h4]
     rw[this];have:=ih (a++[v]) h2;simp only at this;rw[this];have h3:¬ x<v:=by omega
     simp[hlt,h3]
    ·have hall:∀ u∈r,x<u:=fun u hu=>by have:=h1 u hu;omega
     have hf1:r.filter (· <x)=[]:=List.filter_eq_nil_iff.2 fun u hu=>by have:=hall u hu;simp;omega
     have hf2:r.filter (x< ·)=r:=List.filter_eq_self.2 fun u hu=>by simpa using hall u hu
     by_cases he:v=x
     ·have:insStep x (a,false) v=(a++[x],true):=by
       unfold insStep;have h3:x≤v:=by omega
       simp[he]
      rw[this,skip r _ hall];simp[he,hf1,hf2]
     ·have hgt:x<v:=by omega
      have:insStep x (a,false) v=(a++[x]++[v],true):=by
       unfold insStep;have h3:x≤v:=by omega
       simp[h3,he]
      rw[this,skip r _ hall];simp[hlt,hgt,hf1,hf2]
 intro out hp;have:=key out [] hp;simpa[insV] using this
theorem insV_rising{x:Int}{out:List Int}(h:out.Pairwise (· < ·)):(insV out x).Pairwise (· < ·)∧(∀v,v∈insV out x↔v=x∨v∈out)∧(insV out x).length≤out.length+1:=by
 rw[insV_spec x out h];refine⟨?_,fun v=>?_,?_⟩
 ·rw[List.append_assoc,List.pairwise_append];refine⟨h.filter _,?_,fun a ha b hb=>?_⟩
  ·rw[List.singleton_append,List.pairwise_cons];exact⟨fun b hb=>by simpa using (List.mem_filter.1 hb).2,h.filter _⟩
  ·have h1:a<x:=by simpa using (List.mem_filter.1 ha).2
   rcases List.mem_append.1 hb with hb | hb
   ·have:b=x:=by simpa using hb
    omega
   ·have:x<b:=by simpa using (List.mem_filter.1 hb).2
    omega
 ·simp only[List.mem_append,List.mem_filter,List.mem_singleton,decide_eq_true_eq];constructor
  ·rintro ((⟨h1,_⟩ | h1) | ⟨h1,_⟩)
   ·exact .inr h1
   ·exact .inl h1
   ·exact .inr h1
  ·rintro (h1 | h1)
   ·exact .inl (.inr h1)
   ·rcases Int.lt_trichotomy v x with h2 | h2 | h2
    ·exact .inl (.inl ⟨h1,h2⟩)
    ·exact .inl (.inr h2)
    ·exact .inr ⟨h1,h2⟩
 ·have hc:∀ l:List Int,(l.filter (· <x)).length+(l.filter (x< ·)).length≤l.length:=by
   intro l
   induction l with
   | nil=>simp
   | cons a r ih=>
     simp only[List.filter_cons,List.length_cons];by_cases h1:a<x
     ·have h2:¬ x<a:=by omega
      simp[h1,h2];omega
     ·rw[if_neg (by simpa using h1)];split<;>(try simp only[List.length_cons])<;>omega
  have:=hc out;simp;omega
theorem varsT_spec:∀ (l:List Tm) (vs:List Int),vs.Pairwise (· < ·)→(varsT vs l).Pairwise (· < ·)∧(∀v,v∈varsT vs l↔v∈vs∨∃ t∈l,t.1=v)∧(varsT vs l).length≤vs.length+l.length
 | [],vs,h=>⟨h,fun v=>by simp[varsT],by simp[varsT]⟩
 | t::l,vs,h=>by
   obtain⟨h1,h2,h3⟩:=insV_rising (x:=t.1) h;obtain⟨q1,q2,q3⟩:=varsT_spec l (insV vs t.1) h1;refine⟨q1,fun v=>?_,?_⟩
   ·show v∈varsT (insV vs t.1) l↔_;rw[q2,h2];constructor
    ·rintro ((h | h) | ⟨u,hu,hv⟩)
     ·exact .inr ⟨t,by simp,h.symm⟩
     ·exact .inl h
     ·exact .inr ⟨u,by simp[hu],hv⟩
    ·rintro (h | ⟨u,hu,hv⟩)
     ·exact .inl (.inr h)
     ·rcases List.mem_cons.1 hu with e | hu
      ·subst e;exact .inl (.inl hv.symm)
      ·exact .inr ⟨u,hu,hv⟩
   ·show (varsT (insV vs t.1) l).length≤_;simp only[List.length_cons];omega
def tot(es:List Ex):Nat:=(es.map fun e=>e.t.length).sum
theorem varsE_spec':∀ (es:List Ex) (vs:List Int),vs.Pairwise (· < ·)→(es.foldl (fun o e=>varsT o e.t) vs).Pairwise (· < ·)∧(∀v,v∈es.foldl (fun o e=>varsT o e.t) vs↔v∈vs∨∃ e∈es,∃t∈e.t,t.1=v)∧(es.foldl (fun o e=>varsT o e.t) vs).length≤vs.length+tot es
 | [],vs,h=>⟨h,fun v=>by simp,by simp[tot]⟩
 | e::es,vs,h=>by
   obtain⟨h1,h2,h3⟩:=varsT_spec e.t vs h;obtain⟨q1,q2,q3⟩:=varsE_spec' es (varsT vs e.t) h1;refine⟨q1,fun v=>?_,?_⟩
   ·rw[List.foldl_cons,q2,h2];constructor
    ·rintro ((h | ⟨t,ht,hv⟩) | ⟨e',he,t,ht,hv⟩)
     ·exact .inl h
     ·exact .inr ⟨e,by simp,t,ht,hv⟩
     ·exact .inr ⟨e',by simp[he],t,ht,hv⟩
    ·rintro (h | ⟨e',he,t,ht,hv⟩)
     ·exact .inl (.inl h)
     ·rcases List.mem_cons.1 he with e2 | he
      ·subst e2;exact .inl (.inr ⟨t,ht,hv⟩)
      ·exact .inr ⟨e',he,t,ht,hv⟩
   ·rw[List.foldl_cons];simp only[tot,List.map_cons,List.sum_cons]at q3 ⊢;omega
theorem varsE_spec(es:List Ex):(varsE es).Pairwise (· < ·)∧(∀v,v∈varsE es↔∃ e∈es,∃t∈e.t,t.1=v)∧(varsE es).length≤tot es:=by
 obtain⟨h1,h2,h3⟩:=varsE_spec' es [] .nil;exact⟨h1,fun v=>(h2 v).trans (by simp),Nat.le_trans h3 (by simp)⟩
theorem ivs_snoc(l:List Int)(x:Int):ivs (l++[x])=ivs l++[[.v (.int .i64 x)]]:=by simp[ivs]
theorem varsQ(es:List Ex)(hl:es.length≤1000)(ht:∀ e∈es,e.t.length≤1000000):Fn Tryz.prog 164 [.d (.l (es.map enEQ))] [.d (enI (varsE es))]:=by
 have hpre:∀ i,i≤es.length→((es.take i).foldl (fun o e=>varsT o e.t) []).Pairwise (· < ·)∧((es.take i).foldl (fun o e=>varsT o e.t) []).length≤i*1000000:=fun i hi=>by
  obtain⟨h1,_,h3⟩:=varsE_spec (es.take i);refine⟨h1,Nat.le_trans h3 ?_⟩;have:∀ l:List Ex,(∀e∈l,e.t.length≤1000000)→tot l≤l.length*1000000:=by
   intro l
   induction l with
   | nil=>simp[tot]
   | cons e r ih=>
     intro h;have h1:=h e (by simp);have h2:=ih (fun e he=>h e (by simp[he]));simp only[tot,List.map_cons,List.sum_cons,List.length_cons]at h2 ⊢;rw[Nat.add_mul];omega
  have h2:=this (es.take i) (fun e he=>ht e (List.mem_of_mem_take he));rwa[List.length_take,Nat.min_eq_left hi]at h2
 refine Fn.of Tryz.func164 rfl (by kernel_rfl) Tryz.ntmps164 Tryz.results164 rfl fun w0 S0=>?_;refine wk ?_;refine AC.frzVar 3 rfl rfl ?_;refine AC.loop (X:=Nat×List Int) (fun x=>⟨[(3,.d (.l (ivs x.2))),(13,.d (.l (es.map enEQ))),(14,.d (.v (.int .i64 (es.length:Int)))),(15,.d (.v (.int .i64 (x.1:Int))))],[]⟩) (fun x=>x.1≤es.length∧x.2=(es.take x.1).foldl (fun o e=>varsT o e.t) []) (fun x=>es.length-x.1) (0,[]) ⟨Nat.zero_le _,rfl⟩ ⟨rfl,rfl,rfl,rfl,trivial⟩ trivial ?_;rintro ⟨i,vs⟩ ⟨hi,hvs⟩;simp only at hi hvs;dsimp only;obtain⟨hvp,hvl⟩:=hpre i hi;rw[←hvs]at hvp hvl;refine wk ?_;(first | intro K ms hms hK | intro K hK);refine s1 (fun h1=>?_) (fun h1=>?_)
 ·have hi':i<es.length:=by omega
  have hget:es[i]?=some es[i]:=List.getElem?_eq_getElem hi';have hti:=ht es[i] (List.getElem_mem hi');have hfold:=foldl_take (fun o (e:Ex)=>varsT o e.t) [] hi';refine wk ?_;refine AC.loopW (X:=Nat×List Int) (fun x=>⟨[(3,.d (.l (ivs x.2))),(13,.d (.l (es.map enEQ))),(14,.d (.v (.int .i64 (es.length:Int)))),(15,.d (.v (.int .i64 (i:Int)))),(20,.d (.l (es[i].t.map enTQ))),(21,.d (.v (.int .i64 (es[i].t.length:Int)))),(22,.d (.v (.int .i64 (x.1:Int))))],[]⟩) (fun x=>x.1≤es[i].t.length∧x.2=varsT vs (es[i].t.take x.1)) (fun x=>es[i].t.length-x.1) (0,vs) ⟨Nat.zero_le _,rfl⟩ (fun _ _ hs=>hs.sub ⟨rfl,rfl,rfl,rfl,rfl,rfl,rfl,trivial⟩ trivial) ?_;rintro ⟨j,us⟩ ⟨hj,hus⟩;simp only at hj hus;dsimp only;obtain⟨hup,_,hul⟩:=varsT_spec (es[i].t.take j) vs hvp;rw[←hus]at hup hul;have hul2:us.length≤2000000000:=by
   have:(es[i].t.take j).length≤j:=by simp;omega
   have:i*1000000≤1000*1000000:=Nat.mul_le_mul_right _ (by omega);omega
  refine wk ?_;(first | intro K ms hms hK | intro K hK);refine s1 (fun h2=>?_) (fun h2=>?_)
  ·have hj':j<es[i].t.length:=by omega
   have hgetj:es[i].t[j]?=some es[i].t[j]:=List.getElem?_eq_getElem hj';have hfoldj:varsT vs (es[i].t.take (j+1))=insV us es[i].t[j].1:=by
    rw[hus];exact foldl_take (fun o (t:Tm)=>insV o t.1) vs hj'
   generalize hx:es[i].t[j].1=x at hfoldj;refine wk ?_;refine AC.loop (X:=Nat×List Int×Bool×Nat) (fun y=>⟨[(7,.p 7 0),(8,.r 26 y.2.2.2),(9,.d (.v (.bool y.2.2.1))),(13,.d (.l (es.map enEQ))),(14,.d (.v (.int .i64 (es.length:Int)))),(15,.d (.v (.int .i64 (i:Int)))),(20,.d (.l (es[i].t.map enTQ))),(21,.d (.v (.int .i64 (es[i].t.length:Int)))),(22,.d (.v (.int .i64 (j:Int)))),(27,.d (.l (us.map fun v=>[.v (.int .i64 v)]))),(28,.d (.v (.int .i64 (us.length:Int)))),(29,.d (.v (.int .i64 (y.1:Int))))],[(7,.box 192 (.d (.v (.int .i64 x))::(enQ es[i].t[j].2).map .d)),(26,.row y.2.2.2 3 1 (ivs y.2.1))]⟩) (fun y=>y.1≤us.length∧(y.2.1,y.2.2.1)=(us.take y.1).foldl (insStep x) ([],false)) (fun y=>us.length-y.1) (0,[],false,0) ⟨Nat.zero_le _,rfl⟩ ⟨rfl,rfl,rfl,rfl,rfl,rfl,rfl,rfl,rfl,rfl,rfl,rfl,trivial⟩ ⟨by rw[←hx];rfl,rfl,trivial⟩ ?_;rintro ⟨m,nx,dn,g⟩ ⟨hm,hs⟩;simp only at hm hs;dsimp only;have hnl:nx.length≤2*m:=by
    have:=insFold_len x (us.take m) ([],false);rw[←hs]at this;simp at this;omega
   have hil:(ivs nx).length=nx.length:=by simp[ivs]
   have hil1:(ivs nx++[[D.v (.int .i64 x)]]).length=nx.length+1:=by simp[ivs]
   refine wk ?_;(first | intro K ms hms hK | intro K hK);refine s1 (fun h3=>?_) (fun h3=>?_)
   ·have hm':m<us.length:=by omega
    have hgetm:us[m]?=some us[m]:=List.getElem?_eq_getElem hm';have hfm:insStep x (nx,dn) us[m]=(us.take (m+1)).foldl (insStep x) ([],false):=by
     rw[foldl_take (insStep x) ([],false) hm',←hs]
    generalize hv:us[m]=v at hfm hgetm;have fin1:∀ (nx':List Int) (dn':Bool),insStep x (nx,dn) v=(nx',dn')→(nx',dn')=(us.take (m+1)).foldl (insStep x) ([],false):=fun nx' dn' h=>by rw[←h];exact hfm
    cases dn with
    | false=>
      refine wk ?_;refine s1 (fun h4=>?_) (fun h4=>?_)
      ·refine wk ?_;refine s1 (fun h5=>?_) (fun h5=>?_)
       ·refine wk ?_;refine⟨(m+1,nx++[x]++[v],true,g+1+1),⟨by simp only;omega,fin1 _ _ (by unfold insStep;simp[h4,h5])⟩,by simp only;omega,⟨rfl,rfl,rfl,rfl,rfl,rfl,rfl,rfl,rfl,rfl,rfl,rfl,trivial⟩,⟨rfl,by rw[ivs_snoc,ivs_snoc];rfl,trivial⟩⟩
       ·refine wk ?_;refine⟨(m+1,nx++[x],true,g+1),⟨by simp only;omega,fin1 _ _ (by unfold insStep;simp[h4,h5])⟩,by simp only;omega,⟨rfl,rfl,rfl,rfl,rfl,rfl,rfl,rfl,rfl,rfl,rfl,rfl,trivial⟩,⟨rfl,by rw[ivs_snoc];rfl,trivial⟩⟩
      ·have h5:v≠x:=by omega
       refine wk ?_;refine⟨(m+1,nx++[v],false,g+1),⟨by simp only;omega,fin1 _ _ (by unfold insStep;simp[h4,h5])⟩,by simp only;omega,⟨rfl,rfl,rfl,rfl,rfl,rfl,rfl,rfl,rfl,rfl,rfl,rfl,trivial⟩,⟨rfl,by rw[ivs_snoc];rfl,trivial⟩⟩
    | true=>
      refine wk ?_;refine s1 (fun h5=>?_) (fun h5=>?_)
      ·refine wk ?_;refine⟨(m+1,nx++[v],true,g+1),⟨by simp only;omega,fin1 _ _ (by unfold insStep;simp[h5])⟩,by simp only;omega,⟨rfl,rfl,rfl,rfl,rfl,rfl,rfl,rfl,rfl,rfl,rfl,rfl,trivial⟩,⟨rfl,by rw[ivs_snoc];rfl,trivial⟩⟩
      ·refine wk ?_;refine⟨(m+1,nx,true,g),⟨by simp only;omega,fin1 _ _ (by unfold insStep;simp[h5])⟩,by simp only;omega,⟨rfl,rfl,rfl,rfl,rfl,rfl,rfl,rfl,rfl,rfl,rfl,rfl,trivial⟩,⟨rfl,rfl,trivial⟩⟩
   ·have hmu:us.take m=us:=List.take_of_length_le (by omega);rw[hmu]at hs;have hins:insV us x=if dn then nx else nx++[x]:=by unfold insV;simp only[←hs]
    cases dn with
    | false=>
      refine wk ?_;refine⟨(j+1,nx++[x]),⟨by simp only;omega,by simp only;rw[hfoldj,hins];rfl⟩,by simp only;omega,fun a w hs=>(St.frzVar 3 rfl rfl hs).sub ⟨by rw[ivs_snoc];rfl,rfl,rfl,rfl,rfl,rfl,rfl,trivial⟩ trivial⟩
    | true=>
      refine wk ?_;refine⟨(j+1,nx),⟨by simp only;omega,by simp only;rw[hfoldj,hins];rfl⟩,by simp only;omega,fun a w hs=>(St.frzVar 3 rfl rfl hs).sub ⟨rfl,rfl,rfl,rfl,rfl,rfl,rfl,trivial⟩ trivial⟩
  ·have hju:es[i].t.take j=es[i].t:=List.take_of_length_le (by omega);rw[hju]at hus;refine wk ?_;refine⟨(i+1,us),⟨by simp only;omega,by simp only;rw[hfold,←hvs];exact hus⟩,by simp only;omega,⟨rfl,rfl,rfl,rfl,trivial⟩,trivial⟩
 ·have hie:es.take i=es:=List.take_of_length_le (by omega);rw[hie]at hvs;refine wk ?_;refine⟨.d rfl (.inl ?_),trivial⟩;rw[hvs];rfl
end Go.Proofs.YtbbpecfapohlaaaGreatDoor
namespace Go.Proofs.YtbbpecfapohlaaaGreatDoor
open Go.RowKit
attribute [local irreducible] AC Do St
def Means(got:Ex)(p:Rat)(a:Ex)(q:Rat)(b:Ex):Prop:=Form got.t∧got.c=p*a.c+q*b.c∧∀ v,coef got.t v=p*coef a.t v+q*coef b.t v
theorem sgnR_eq{p q:Rat}:sgnR (p-q)=0↔p=q:=by
 rw[sgnR_zero];constructor
 ·intro h;grind
 ·intro h;grind
structure Sm(N k:Nat)(e:Ex):Prop where
 c:Bd k e.c
 t:∀ t∈e.t,Bd k t.2
 n:e.t.length≤N
theorem Sm.coef{N k:Nat}{e:Ex}(h:Sm N k e)(v:Int):Bd ((N+2)*(k+1)) (coef e.t v):=by
 have:=coef_bd h.t v e.t.length (Nat.le_refl _);rw[List.take_length]at this;exact this.mono (Nat.mul_le_mul_right _ (by have:=h.n;omega))
theorem Sm.k{N k:Nat}:k+1≤(N+2)*(k+1):=Nat.le_mul_of_pos_left _ (by omega)
theorem Sm.len{N k:Nat}{e:Ex}(h:Sm N k e)(M:Nat)(hk:(N+2)*(k+1)≤M):e.t.length≤M:=by
 have:=h.n;have:N+2≤(N+2)*(k+1):=Nat.le_mul_of_pos_right _ (by omega);omega
theorem Sm.coefQ{N k:Nat}{e:Ex}(h:Sm N k e)(v:Int)(hk:(N+2)*(k+1)≤50000000):Fn Tryz.prog 165 [.g (enEQ e),.d (.v (.int .i64 v))] [.g (enQ (Go.Proofs.YtbbpecfapohlaaaGreatDoor.coef e.t v))]:=
 Go.Proofs.YtbbpecfapohlaaaGreatDoor.coefQ e v k h.t (Nat.le_trans (Nat.mul_le_mul_right _ (by have:=h.n;omega)) hk)
end Go.Proofs.YtbbpecfapohlaaaGreatDoor
namespace Go.Proofs.YtbbpecfapohlaaaGreatDoor
open Go.RowKit
attribute [local irreducible] AC Do St
structure At where
 e:Ex
 op:Int
def enA(a:At):List D:=enE a.e++[.v (.int .i64 a.op)]
def enAQ(a:At):List D:=enEQ a.e++[.v (.int .i64 a.op)]
def sayB(op:Int)(q:Rat):Bool:=if op=1 then decide (sgnR q≤0)else if op=2 then decide (sgnR q<0)else decide (sgnR q=0)
theorem saysQ(op:Int)(q:Rat):Fn Tryz.prog 133 [.d (.v (.int .i64 op)),.g (enQ q)] [.d (.v (.bool (sayB op q)))]:=by
 refine Fn.of Tryz.func133 rfl (by kernel_rfl) Tryz.ntmps133 Tryz.results133 rfl fun w0 S0=>?_;refine wk ?_;refine c1 (qSign q) ?_;refine wk ?_;refine s1 (fun h1=>?_) (fun h1=>?_)
 ·have hs:sayB op q=decide (sgnR q≤0):=by unfold sayB;rw[if_pos h1]
  refine wk ?_;refine s1 (fun h2=>?_) (fun h2=>?_)
  ·refine wk ?_;rw[hs,decide_eq_true h2];exact⟨.d rfl (.inl rfl),trivial⟩
  ·refine wk ?_;rw[hs,decide_eq_false h2];exact⟨.d rfl (.inl rfl),trivial⟩
 ·refine wk ?_;refine s1 (fun h2=>?_) (fun h2=>?_)
  ·have hs:sayB op q=decide (sgnR q<0):=by unfold sayB;rw[if_neg h1,if_pos h2]
   refine wk ?_;refine s1 (fun h3=>?_) (fun h3=>?_)
   ·refine wk ?_;rw[hs,decide_eq_true h3];exact⟨.d rfl (.inl rfl),trivial⟩
   ·refine wk ?_;rw[hs,decide_eq_false h3];exact⟨.d rfl (.inl rfl),trivial⟩
  ·have hs:sayB op q=decide (sgnR q=0):=by unfold sayB;rw[if_neg h1,if_neg h2]
   refine wk ?_;refine s1 (fun h3=>?_) (fun h3=>?_)
   ·refine wk ?_;rw[hs,decide_eq_true h3];exact⟨.d rfl (.inl rfl),trivial⟩
   ·refine wk ?_;rw[hs,decide_eq_false h3];exact⟨.d rfl (.inl rfl),trivial⟩
noncomputable def leadQ (e:Ex):Option (Int×Rat):=match (varsE [e]).find? (fun v=>!decide (coef e.t v=0))with
 | some v=>some (v,coef e.t v)
 | none=>none
noncomputable def leadR (e:Ex):List DV:=match leadQ e with
 | some (v,c)=>[.d (.v (.int .i64 v)),.g (enQ c),.d (.v (.bool true))]
 | none=>[.d (.v (.int .i64 0)),.g (enQ 0),.d (.v (.bool false))]
theorem find_at{l:List Int}{p:Int→Bool}{i:Nat}(hi:i<l.length)(h1:∀ v∈l.take i,p v=false)(h2:p l[i]=true):l.find? p=some l[i]:=by
 have e:l.find? p=(l.take i++l.drop i).find? p:=by rw[List.take_append_drop]
 rw[e,List.find?_append];have:(l.take i).find? p=none:=List.find?_eq_none.2 fun v hv=>by rw[h1 v hv];simp
 rw[this];have hd:l.drop i=l[i]::l.drop (i+1):=List.drop_eq_getElem_cons hi;rw[hd,List.find?_cons,h2];rfl
theorem lead{N k:Nat}{e:Ex}(he:Sm N k e)(hk:8*((N+2)*(k+1))≤8000000):Fn Tryz.prog 157 [.g (enEQ e)] (leadR e):=by
 obtain⟨hv1,hv2,hv3⟩:=varsE_spec [e];have hvl:(varsE [e]).length≤30000000:=by
  have h1:=he.len 1000000 (by omega);simp[tot]at hv3;omega
 refine Fn.of Tryz.func157 rfl (by kernel_rfl) Tryz.ntmps157 Tryz.results157 rfl fun w0 S0=>?_;refine wk ?_;refine c1 (varsQ [e] (by simp) (by
  intro x hx;simp at hx;subst hx;exact he.len 1000000 (by omega))) ?_
 refine wk ?_;refine AC.loop (X:=Nat) (fun i=>⟨[(1,.p 1 0),(3,.p 3 0),(10,.d (enI (varsE [e]))),(11,.d (.v (.int .i64 ((varsE [e]).length:Int)))),(12,.d (.v (.int .i64 (i:Int))))],[(1,.box 140 ((enEQ e).map .d)),(3,.box 136 [.d (.v (.bool false)),.d .n,.d .n])]⟩) (fun i=>i≤(varsE [e]).length∧∀ v∈(varsE [e]).take i,coef e.t v=0) (fun i=>(varsE [e]).length-i) 0 ⟨Nat.zero_le _,by simp⟩ ⟨rfl,rfl,rfl,rfl,rfl,trivial⟩ ⟨rfl,rfl,trivial⟩ ?_;intro i ⟨hi,hok⟩;refine wk ?_;refine s1 (fun h2=>?_) (fun h2=>?_)
 ·have hi':i<(varsE [e]).length:=by omega
  have hget:(varsE [e])[i]?=some (varsE [e])[i]:=List.getElem?_eq_getElem hi';have htk:(varsE [e]).take (i+1)=(varsE [e]).take i++[(varsE [e])[i]]:=List.take_succ_eq_append_getElem hi';have hfind:=fun h=>find_at (p:=fun v=>!decide (coef e.t v=0)) hi' (fun v hv=>by simpa using hok v hv) h;generalize (varsE [e])[i]=v at hget htk hfind;refine wk ?_;refine c1 (he.coefQ v (by omega)) ?_;refine wk ?_;refine c1 (qSign (coef e.t v)) ?_;refine wk ?_;refine s1 (fun h3=>?_) (fun h3=>?_)
  ·have hne:coef e.t v≠0:=fun h=>h3 (sgnR_zero.2 h);have hl:leadR e=[.d (.v (.int .i64 v)),.g (enQ (coef e.t v)),.d (.v (.bool true))]:=by
    unfold leadR leadQ;rw[hfind (by simpa using hne)]
   refine wk ?_;rw[hl];exact⟨.d rfl (.inl rfl),.cn rfl rfl inferInstance rfl ⟨.inl rfl,.inl rfl,.inl rfl,trivial⟩,.d rfl (.inl rfl),trivial⟩
  ·have h3':coef e.t v=0:=sgnR_zero.1 (Classical.byContradiction h3);refine wk ?_;refine⟨i+1,⟨by omega,fun u hu=>?_⟩,by omega,⟨rfl,rfl,rfl,rfl,rfl,trivial⟩,⟨rfl,rfl,trivial⟩⟩;rw[htk]at hu;rcases List.mem_append.1 hu with hu | hu
   ·exact hok u hu
   ·rw[List.mem_singleton.1 hu];exact h3'
 ·rw[List.take_of_length_le (by omega)]at hok;have hl:leadR e=[.d (.v (.int .i64 0)),.g (enQ 0),.d (.v (.bool false))]:=by
   unfold leadR leadQ;rw[List.find?_eq_none.2 fun v hv=>by simpa using hok v hv]
  refine wk ?_;refine c1 (qInt 0 (by omega) (by omega)) ?_;refine wk ?_;rw[hl];exact⟨.d rfl (.inl rfl),.cn rfl rfl inferInstance rfl ⟨.inl rfl,.inl rfl,.inl rfl,trivial⟩,.d rfl (.inl rfl),trivial⟩
theorem lead_some{N k:Nat}{e:Ex}(he:Sm N k e)(hk:8*((N+2)*(k+1))≤8000000){v:Int}{c:Rat}(h:leadQ e=some (v,c)):Fn Tryz.prog 157 [.g (enEQ e)] [.d (.v (.int .i64 v)),.g (enQ c),.d (.v (.bool true))]:=by
 have:=lead he hk;unfold leadR at this;rwa[h]at this
theorem lead_none{N k:Nat}{e:Ex}(he:Sm N k e)(hk:8*((N+2)*(k+1))≤8000000)(h:leadQ e=none):Fn Tryz.prog 157 [.g (enEQ e)] [.d (.v (.int .i64 0)),.g (enQ 0),.d (.v (.bool false))]:=by
 have:=lead he hk;unfold leadR at this;rwa[h]at this
theorem leadQ_ne{e:Ex}{v:Int}{c:Rat}(h:leadQ e=some (v,c)):c≠0∧c=coef e.t v∧∀ u,u<v→coef e.t u=0:=by
 unfold leadQ at h;split at h
 ·rename_i u hu;simp only[Option.some.injEq,Prod.mk.injEq]at h;obtain⟨rfl,rfl⟩:=h;have h1:=List.find?_some hu;refine⟨by simpa using h1,rfl,fun x hx=>?_⟩;obtain⟨hv1,hv2,_⟩:=varsE_spec [e];by_cases hm:x∈varsE [e]
  ·obtain⟨_,l1,l2,heq,hall⟩:=List.find?_eq_some_iff_append.1 hu;rw[heq]at hm hv1;rcases List.mem_append.1 hm with hm | hm
   ·simpa using hall x hm
   ·rcases List.mem_cons.1 hm with e2 | hm
    ·omega
    ·have:=List.rel_of_pairwise_cons (List.pairwise_append.1 hv1).2.1 hm;omega
  ·exact coef_none fun t ht hv=>hm ((hv2 x).2 ⟨e,by simp,t,ht,hv⟩)
 ·cases h
theorem leadQ_none{e:Ex}(h:leadQ e=none):∀ v,coef e.t v=0:=by
 intro v;unfold leadQ at h;split at h
 ·cases h
 ·rename_i hn;obtain⟨hv1,hv2,_⟩:=varsE_spec [e];by_cases hm:v∈varsE [e]
  ·have:=List.find?_eq_none.1 hn v hm;simpa using this
  ·exact coef_none fun t ht hv=>hm ((hv2 v).2 ⟨e,by simp,t,ht,hv⟩)
noncomputable def truthI (a:At):Int:=match leadQ a.e with
 | some _=>0
 | none=>if sayB a.op a.e.c then 1 else 2
theorem truthQ{N k:Nat}(a:At)(he:Sm N k a.e)(hk:8*((N+2)*(k+1))≤8000000):Fn Tryz.prog 93 [.g (enAQ a)] [.d (.v (.int .i64 (truthI a)))]:=by
 refine Fn.of Tryz.func93 rfl (by kernel_rfl) Tryz.ntmps93 Tryz.results93 rfl fun w0 S0=>?_;refine wk ?_;cases hl:leadQ a.e with
 | some x=>
   obtain⟨v,c⟩:=x;have ht:truthI a=0:=by unfold truthI;rw[hl]
   refine c1 (lead_some he hk hl) ?_;refine wk ?_;rw[ht];exact⟨.d rfl (.inl rfl),trivial⟩
 | none=>
   have ht:truthI a=if sayB a.op a.e.c then 1 else 2:=by unfold truthI;rw[hl]
   refine c1 (lead_none he hk hl) ?_;refine wk ?_;refine c1 (saysQ a.op a.e.c) ?_;cases hs:sayB a.op a.e.c with
   | true=>refine wk ?_;rw[ht,hs];exact⟨.d rfl (.inl rfl),trivial⟩
   | false=>refine wk ?_;rw[ht,hs];exact⟨.d rfl (.inl rfl),trivial⟩
noncomputable def byQ (op:Int)(c:Rat):Rat:=(if op=3 then c else absR c)⁻¹
theorem byF{N k:Nat}(a:At)(he:Sm N k a.e)(hk:8*((N+2)*(k+1))≤8000000){v:Int}{c:Rat}(hl:leadQ a.e=some (v,c))(habs:absR c≠0):Fn Tryz.prog 94 [.g (enAQ a)] [.g (enQ (byQ a.op c))]:=by
 have hc:=(leadQ_ne hl).1;refine Fn.of Tryz.func94 rfl (by kernel_rfl) Tryz.ntmps94 Tryz.results94 rfl fun w0 S0=>?_;refine wk ?_;refine c1 (lead_some he hk hl) ?_;refine wk ?_;refine s1 (fun h1=>?_) (fun h1=>?_)
 ·have hb:byQ a.op c=(absR c)⁻¹ :=by unfold byQ;rw[if_neg h1]
  refine wk ?_;refine c1 (qAbs c) ?_;refine wk ?_;refine c1 (qInv habs) ?_;refine wk ?_;rw[hb];exact⟨.cn rfl rfl inferInstance rfl ⟨.inl rfl,.inl rfl,.inl rfl,trivial⟩,trivial⟩
 ·have hb:byQ a.op c=c⁻¹ :=by unfold byQ;rw[if_pos (Classical.byContradiction h1)]
  refine wk ?_;refine c1 (qInv hc) ?_;refine wk ?_;rw[hb];exact⟨.cn rfl rfl inferInstance rfl ⟨.inl rfl,.inl rfl,.inl rfl,trivial⟩,trivial⟩
def okOp(op:Int):Prop:=1≤op∧op≤3
theorem checkA(a:At)(h:okOp a.op):Fn Tryz.prog 58 [.g (enA a)] [.d (.v (.int .i64 0))]:=by
 obtain⟨h1,h2⟩:=h;refine Fn.of Tryz.func58 rfl (by kernel_rfl) Tryz.ntmps58 Tryz.results58 rfl fun w0 S0=>?_;refine wk ?_;exact⟨.d rfl (.inl rfl),trivial⟩
theorem checkNo(a:At)(h:¬ okOp a.op):Fn Tryz.prog 58 [.g (enA a)] [.d (.v (.int .i64 4))]:=by
 unfold okOp at h;refine Fn.of Tryz.func58 rfl (by kernel_rfl) Tryz.ntmps58 Tryz.results58 rfl fun w0 S0=>?_;refine wk ?_;refine s1 (fun h1=>?_) (fun h1=>?_)
 ·refine wk ?_;exact⟨.d rfl (.inl rfl),trivial⟩
 ·have h2:3<a.op:=by omega
  refine wk ?_;exact⟨.d rfl (.inl rfl),trivial⟩
theorem saysR(op:Int)(q:Rat)(h:okOp op):Fn Tryz.prog 192 [.d (.v (.int .i64 op)),.g (enR q)] [.d (.v (.bool (sayB op q)))]:=by
 obtain⟨ho1,ho2⟩:=h;have key:∀ b:Bool,b=sayB op q→Fn Tryz.prog 192 [.d (.v (.int .i64 op)),.g (enR q)] [.d (.v (.bool b))]:=by
  intro b hb;refine Fn.of Tryz.func192 rfl (by kernel_rfl) Tryz.ntmps192 Tryz.results192 rfl fun w0 S0=>?_;refine wk ?_;refine c1 (ratSign q) ?_;refine wk ?_;refine s1 (fun h1=>?_) (fun h1=>?_)
  ·refine wk ?_;refine s1 (fun h2=>?_) (fun h2=>?_)
   ·have:b=true:=by
     rw[hb];unfold sayB;rw[h1];have:op=1∨op=3:=by omega
     rcases this with h | h<;>simp[h]
    refine wk ?_;rw[this];exact⟨.d rfl (.inl rfl),trivial⟩
   ·have h2':op=2:=Classical.byContradiction h2;have:b=false:=by rw[hb];unfold sayB;rw[h1];simp[h2']
    refine wk ?_;rw[this];exact⟨.d rfl (.inl rfl),trivial⟩
  ·refine wk ?_;refine s1 (fun h2=>?_) (fun h2=>?_)
   ·refine wk ?_;refine s1 (fun h3=>?_) (fun h3=>?_)
    ·have:b=true:=by
      rw[hb];unfold sayB;have:op=1∨op=2:=by omega
      rcases this with h | h
      ·simp[h];omega
      ·simp[h,h2]
     refine wk ?_;rw[this];exact⟨.d rfl (.inl rfl),trivial⟩
    ·have h3':op=3:=Classical.byContradiction h3;have:b=false:=by rw[hb];unfold sayB;simp[h3',h1]
     refine wk ?_;rw[this];exact⟨.d rfl (.inl rfl),trivial⟩
   ·have:b=false:=by
     rw[hb];unfold sayB;have:op=1∨op=2∨op=3:=by omega
     rcases this with h | h | h
     ·simp[h];omega
     ·simp[h];omega
     ·simp[h,h1]
    refine wk ?_;rw[this];exact⟨.d rfl (.inl rfl),trivial⟩
 exact key _ rfl
end Go.Proofs.YtbbpecfapohlaaaGreatDoor
