import Derived.Test.YtbbpecfapohlaaaGreatDoorRef8
import Derived.Test.YtbbpecfapohlaaaGreatDoorPpG
import Derived.Test.YtbbpecfapohlaaaGreatDoorTab
import Derived.Test.YtbbpecfapohlaaaGreatDoorSmL
namespace Go.Proofs.YtbbpecfapohlaaaGreatDoor
open Go.RowKit
attribute [local irreducible] AC Do St
def enG{β:Type}(ft:β→List Tm)(f1 f2 f3:β→D)(e:β):List D:=[.l ((ft e).map enTQ),f1 e,f2 e,f3 e]
set_option maxRecDepth 100000 in
set_option maxHeartbeats 2000000 in
theorem varsG{β:Type}(es:List β)(ft:β→List Tm)(f1 f2 f3:β→D)(hl:es.length≤1000)(ht:∀ e∈es,(ft e).length≤1000000):Fn Tryz.prog 164 [.d (.l (es.map (enG ft f1 f2 f3)))] [.d (enI (es.foldl (fun o e=>varsT o (ft e)) []))]:=by
 have hpre:∀ i,i≤es.length→((es.take i).foldl (fun o e=>varsT o (ft e)) []).Pairwise (· < ·)∧((es.take i).foldl (fun o e=>varsT o (ft e)) []).length≤i*1000000:=fun i hi=>by
  obtain⟨h1,_,h3⟩:=varsE_spec ((es.take i).map fun e=>⟨ft e,0⟩)
  unfold varsE at h1 h3
  rw[List.foldl_map]at h1 h3
  refine⟨h1,Nat.le_trans h3 ?_⟩
  have:∀ l:List Ex,(∀e∈l,e.t.length≤1000000)→tot l≤l.length*1000000:=by
   intro l
   induction l with
   | nil=>simp[tot]
   | cons e r ih=>
     intro h
     have h1:=h e (by simp)
     have h2:=ih (fun e he=>h e (by simp[he]))
     simp only[tot,List.map_cons,List.sum_cons,List.length_cons]at h2 ⊢
     rw[Nat.add_mul]
     omega
  have h2:=this ((es.take i).map fun e=>⟨ft e,0⟩) (fun e he=>by obtain⟨x,hx,rfl⟩:=List.mem_map.1 he;exact ht x (List.mem_of_mem_take hx))
  rwa[List.length_map,List.length_take,Nat.min_eq_left hi]at h2
 refine Fn.of Tryz.func164 rfl (by kernel_rfl) Tryz.ntmps164 Tryz.results164 rfl fun w0 S0=>?_
 refine wk ?_
 refine AC.frzVar 3 rfl rfl ?_
 refine AC.loop (X:=Nat×List Int) (fun x=>⟨[(3,.d (.l (ivs x.2))),(13,.d (.l (es.map (enG ft f1 f2 f3)))),(14,.d (.v (.int .i64 (es.length:Int)))),(15,.d (.v (.int .i64 (x.1:Int))))],[]⟩) (fun x=>x.1≤es.length∧x.2=(es.take x.1).foldl (fun o e=>varsT o (ft e)) []) (fun x=>es.length-x.1) (0,[]) ⟨Nat.zero_le _,rfl⟩ ⟨rfl,rfl,rfl,rfl,trivial⟩ trivial ?_
 rintro ⟨i,vs⟩ ⟨hi,hvs⟩
 simp only at hi hvs
 dsimp only
 obtain⟨hvp,hvl⟩:=hpre i hi
 rw[←hvs]at hvp hvl
 refine wk ?_
 (first | intro K ms hms hK | intro K hK)
 refine s1 (fun h1=>?_) (fun h1=>?_)
 ·have hi':i<es.length:=by omega
  have hget:es[i]?=some es[i]:=List.getElem?_eq_getElem hi'
  have hti:=ht es[i] (List.getElem_mem hi')
  have hfold:=foldl_take (fun o (e:β)=>varsT o (ft e)) [] hi'
  refine wk ?_
  refine AC.loopW (X:=Nat×List Int) (fun x=>⟨[(3,.d (.l (ivs x.2))),(13,.d (.l (es.map (enG ft f1 f2 f3)))),(14,.d (.v (.int .i64 (es.length:Int)))),(15,.d (.v (.int .i64 (i:Int)))),(20,.d (.l ((ft es[i]).map enTQ))),(21,.d (.v (.int .i64 ((ft es[i]).length:Int)))),(22,.d (.v (.int .i64 (x.1:Int))))],[]⟩) (fun x=>x.1≤(ft es[i]).length∧x.2=varsT vs ((ft es[i]).take x.1)) (fun x=>(ft es[i]).length-x.1) (0,vs) ⟨Nat.zero_le _,rfl⟩ (fun _ _ hs=>hs.sub ⟨rfl,rfl,rfl,rfl,rfl,rfl,rfl,trivial⟩ trivial) ?_
  rintro ⟨j,us⟩ ⟨hj,hus⟩
  simp only at hj hus
  dsimp only
  obtain⟨hup,_,hul⟩:=varsT_spec ((ft es[i]).take j) vs hvp
  rw[←hus]at hup hul
  have hul2:us.length≤2000000000:=by
   have:((ft es[i]).take j).length≤j:=by simp;omega
   have:i*1000000≤1000*1000000:=Nat.mul_le_mul_right _ (by omega)
   omega
  refine wk ?_
  (first | intro K ms hms hK | intro K hK)
  refine s1 (fun h2=>?_) (fun h2=>?_)
  ·have hj':j<(ft es[i]).length:=by omega
   have hgetj:(ft es[i])[j]?=some (ft es[i])[j]:=List.getElem?_eq_getElem hj'
   have hfoldj:varsT vs ((ft es[i]).take (j+1))=insV us (ft es[i])[j].1:=by
    rw[hus];exact foldl_take (fun o (t:Tm)=>insV o t.1) vs hj'
   generalize hx:(ft es[i])[j].1=x at hfoldj
   refine wk ?_
   refine AC.loop (X:=Nat×List Int×Bool×Nat) (fun y=>⟨[(7,.p 7 0),(8,.r 26 y.2.2.2),(9,.d (.v (.bool y.2.2.1))),(13,.d (.l (es.map (enG ft f1 f2 f3)))),(14,.d (.v (.int .i64 (es.length:Int)))),(15,.d (.v (.int .i64 (i:Int)))),(20,.d (.l ((ft es[i]).map enTQ))),(21,.d (.v (.int .i64 ((ft es[i]).length:Int)))),(22,.d (.v (.int .i64 (j:Int)))),(27,.d (.l (us.map fun v=>[.v (.int .i64 v)]))),(28,.d (.v (.int .i64 (us.length:Int)))),(29,.d (.v (.int .i64 (y.1:Int))))],[(7,.box 192 (.d (.v (.int .i64 x))::(enQ (ft es[i])[j].2).map .d)),(26,.row y.2.2.2 3 1 (ivs y.2.1))]⟩) (fun y=>y.1≤us.length∧(y.2.1,y.2.2.1)=(us.take y.1).foldl (insStep x) ([],false)) (fun y=>us.length-y.1) (0,[],false,0) ⟨Nat.zero_le _,rfl⟩ ⟨rfl,rfl,rfl,rfl,rfl,rfl,rfl,rfl,rfl,rfl,rfl,rfl,trivial⟩ ⟨by rw[←hx];rfl,rfl,trivial⟩ ?_
   rintro ⟨m,nx,dn,g⟩ ⟨hm,hs⟩
   simp only at hm hs
   dsimp only
   have hnl:nx.length≤2*m:=by
    have:=insFold_len x (us.take m) ([],false)
    rw[←hs]at this
    simp at this
    omega
   have hil:(ivs nx).length=nx.length:=by simp[ivs]
   have hil1:(ivs nx++[[D.v (.int .i64 x)]]).length=nx.length+1:=by simp[ivs]
   refine wk ?_
   (first | intro K ms hms hK | intro K hK)
   refine s1 (fun h3=>?_) (fun h3=>?_)
   ·have hm':m<us.length:=by omega
    have hgetm:us[m]?=some us[m]:=List.getElem?_eq_getElem hm'
    have hfm:insStep x (nx,dn) us[m]=(us.take (m+1)).foldl (insStep x) ([],false):=by
     rw[foldl_take (insStep x) ([],false) hm',←hs]
    generalize hv:us[m]=v at hfm hgetm
    have fin1:∀ (nx':List Int) (dn':Bool),insStep x (nx,dn) v=(nx',dn')→(nx',dn')=(us.take (m+1)).foldl (insStep x) ([],false):=fun nx' dn' h=>by rw[←h];exact hfm
    cases dn with
    | false=>
      refine wk ?_
      refine s1 (fun h4=>?_) (fun h4=>?_)
      ·refine wk ?_
       refine s1 (fun h5=>?_) (fun h5=>?_)
       ·refine wk ?_
        refine⟨(m+1,nx++[x]++[v],true,g+1+1),⟨by simp only;omega,fin1 _ _ (by unfold insStep;simp[h4,h5])⟩,by simp only;omega,⟨rfl,rfl,rfl,rfl,rfl,rfl,rfl,rfl,rfl,rfl,rfl,rfl,trivial⟩,⟨rfl,by rw[ivs_snoc,ivs_snoc];rfl,trivial⟩⟩
       ·refine wk ?_
        refine⟨(m+1,nx++[x],true,g+1),⟨by simp only;omega,fin1 _ _ (by unfold insStep;simp[h4,h5])⟩,by simp only;omega,⟨rfl,rfl,rfl,rfl,rfl,rfl,rfl,rfl,rfl,rfl,rfl,rfl,trivial⟩,⟨rfl,by rw[ivs_snoc];rfl,trivial⟩⟩
      ·have h5:v≠x:=by omega
       refine wk ?_
       refine⟨(m+1,nx++[v],false,g+1),⟨by simp only;omega,fin1 _ _ (by unfold insStep;simp[h4,h5])⟩,by simp only;omega,⟨rfl,rfl,rfl,rfl,rfl,rfl,rfl,rfl,rfl,rfl,rfl,rfl,trivial⟩,⟨rfl,by rw[ivs_snoc];rfl,trivial⟩⟩
    | true=>
      refine wk ?_
      refine s1 (fun h5=>?_) (fun h5=>?_)
      ·refine wk ?_
       refine⟨(m+1,nx++[v],true,g+1),⟨by simp only;omega,fin1 _ _ (by unfold insStep;simp[h5])⟩,by simp only;omega,⟨rfl,rfl,rfl,rfl,rfl,rfl,rfl,rfl,rfl,rfl,rfl,rfl,trivial⟩,⟨rfl,by rw[ivs_snoc];rfl,trivial⟩⟩
      ·refine wk ?_
       refine⟨(m+1,nx,true,g),⟨by simp only;omega,fin1 _ _ (by unfold insStep;simp[h5])⟩,by simp only;omega,⟨rfl,rfl,rfl,rfl,rfl,rfl,rfl,rfl,rfl,rfl,rfl,rfl,trivial⟩,⟨rfl,rfl,trivial⟩⟩
   ·have hmu:us.take m=us:=List.take_of_length_le (by omega)
    rw[hmu]at hs
    have hins:insV us x=if dn then nx else nx++[x]:=by unfold insV;simp only[←hs]
    cases dn with
    | false=>
      refine wk ?_
      refine⟨(j+1,nx++[x]),⟨by simp only;omega,by simp only;rw[hfoldj,hins];rfl⟩,by simp only;omega,fun a w hs=>(St.frzVar 3 rfl rfl hs).sub ⟨by rw[ivs_snoc];rfl,rfl,rfl,rfl,rfl,rfl,rfl,trivial⟩ trivial⟩
    | true=>
      refine wk ?_
      refine⟨(j+1,nx),⟨by simp only;omega,by simp only;rw[hfoldj,hins];rfl⟩,by simp only;omega,fun a w hs=>(St.frzVar 3 rfl rfl hs).sub ⟨rfl,rfl,rfl,rfl,rfl,rfl,rfl,trivial⟩ trivial⟩
  ·have hju:(ft es[i]).take j=(ft es[i]):=List.take_of_length_le (by omega)
   rw[hju]at hus
   refine wk ?_
   refine⟨(i+1,us),⟨by simp only;omega,by simp only;rw[hfold,←hvs];exact hus⟩,by simp only;omega,⟨rfl,rfl,rfl,rfl,trivial⟩,trivial⟩
 ·have hie:es.take i=es:=List.take_of_length_le (by omega)
  rw[hie]at hvs
  refine wk ?_
  refine⟨.d rfl (.inl ?_),trivial⟩
  rw[hvs];rfl
end Go.Proofs.YtbbpecfapohlaaaGreatDoor
namespace Go.Proofs.YtbbpecfapohlaaaGreatDoor
open Go.RowKit
attribute [local irreducible] AC Do St
set_option maxRecDepth 100000 in
set_option maxHeartbeats 4000000 in
theorem coefZ(ts:List Tm)(o:Option Rat)(v:Int)(hk:tb ts+2≤50000000):Fn Tryz.prog 165 [.g (.l (ts.map enTQ)::enO o),.d (.v (.int .i64 v))] [.g (enQ (coef ts v))]:=by
 have hlen:ts.length≤50000000:=by have:=tb_len ts;omega
 have h0:Fn Tryz.prog 95 [.d (.v (.int .i64 0))] [.g (enQ 0)]:=qInt 0 (by omega) (by omega)
 refine Fn.of Tryz.func165 rfl (by kernel_rfl) Tryz.ntmps165 Tryz.results165 rfl fun w0 S0=>?_
 refine wa ?_
 refine AC.loop (X:=Nat) (fun i=>⟨[(1,.d (.v (.int .i64 v))),(4,.p 4 0),(5,.p 5 0),(10,.d (.l (ts.map enTQ))),(11,.d (.v (.int .i64 (ts.length:Int)))),(12,.d (.v (.int .i64 (i:Int))))],[(4,.box 136 [.d (.v (.bool false)),.d .n,.d .n]),(5,.box 136 ((enQ (coef (ts.take i) v)).map .d))]⟩) (fun i=>i≤ts.length) (fun i=>ts.length-i) 0 (Nat.zero_le _) ⟨rfl,rfl,rfl,rfl,rfl,rfl,trivial⟩ ⟨rfl,rfl,trivial⟩ ?_
 intro i hi
 dsimp only at hi ⊢
 by_cases h1:i<ts.length
 ·have hget:ts[i]?=some ts[i]:=List.getElem?_eq_getElem h1
  have hct:=coef_take h1 v
  have hmono:tb (ts.take i)+1+bz ts[i].2≤50000000:=by have:=tb_at h1;omega
  have hs:=qSign (coef (ts.take i) v)
  have ha:=qAdd (coef_tb (ts.take i) v) (bd_bz ts[i].2) hmono
  by_cases h2:ts[i].1=v
  ·rw[if_pos h2]at hct
   by_cases h3:sgnR (coef (ts.take i) v)=0
   ·have hc':coef (ts.take (i+1)) v=ts[i].2:=by
     rw[hct,sgnR_zero.1 h3];grind
    refine wa ?_
    exact⟨i+1,by omega,by omega,⟨rfl,rfl,rfl,rfl,rfl,rfl,trivial⟩,⟨rfl,by rw[hc'];rfl,trivial⟩⟩
   ·refine wa ?_
    exact⟨i+1,by omega,by omega,⟨rfl,rfl,rfl,rfl,rfl,rfl,trivial⟩,⟨rfl,by rw[hct];rfl,trivial⟩⟩
  ·have hc':coef (ts.take (i+1)) v=coef (ts.take i) v:=by
    rw[hct,if_neg h2];grind
   refine wa ?_
   exact⟨i+1,by omega,by omega,⟨rfl,rfl,rfl,rfl,rfl,rfl,trivial⟩,⟨rfl,by rw[hc'];rfl,trivial⟩⟩
 ·rw[List.take_of_length_le (show ts.length≤i by omega)]
  refine wa ?_
  exact⟨.cn rfl rfl inferInstance rfl ⟨.inl rfl,.inl rfl,.inl rfl,trivial⟩,trivial⟩
end Go.Proofs.YtbbpecfapohlaaaGreatDoor
namespace Go.Proofs.YtbbpecfapohlaaaGreatDoor
open Go.RowKit
attribute [local irreducible] AC Do St
def zeroE:List D:= .l []::enZ0
def ftZ(x:Ex×Option Rat):List Tm:=x.1.t
set_option maxRecDepth 100000 in
set_option maxHeartbeats 4000000 in
theorem meansZ(got:Ex)(p:Rat)(a:Ex)(N k:Nat)(hg:Sm N k got)(ha:Sm N k a)(hp:Bd k p)(hk:8*((N+2)*(k+1))≤8000000)(hm:Means got p a 0 ⟨[],0⟩):
  Fn Tryz.prog 104 [.g (enEQ got),.g (enQ p),.g (enEQ a),.g (enQ 0),.g zeroE] [.d (.v (.bool true))]:=by
 haveI:=Classical.propDecidable (Form got.t)
 have hK:=Sm.k (N:=N) (k:=k)
 have hfo:=formQ got (hg.len 1000000 (by omega))
 rw[decide_eq_true hm.1]at hfo
 have h0:Bd 1 (0:Rat):=Bd.zero (by omega)
 have hm1:=qMul hp ha.c (by omega)
 have hm2:=qMul0 (p:=0) h0 (by omega)
 have hz:(0:Rat)*0=0:=Rat.zero_mul 0
 rw[hz]at hm2
 have hb1:=hp.mul ha.c
 have had:=qAdd hb1 h0 (by omega)
 have hc1:got.c=p*a.c+0:=by rw[hm.2.1,Rat.zero_mul]
 have hcm:=qCmp hg.c (hb1.add h0) (by omega)
 rw[show sgnR (got.c-(p*a.c+0))=0 from sgnR_eq.2 hc1]at hcm
 have hco:∀ v,coef got.t v=p*coef a.t v+0:=fun v=>by rw[hm.2.2 v,show coef (⟨[],0⟩:Ex).t v=0 from rfl,Rat.zero_mul]
 obtain⟨L,hL⟩:∃ L,[(got,some got.c),(a,some a.c),((⟨[],0⟩:Ex),(none:Option Rat))].foldl (fun o e=>varsT o (ftZ e)) []=L:=⟨_,rfl⟩
 have hva:Fn Tryz.prog 164 [.d (.l [enEQ got,enEQ a,zeroE])] [.d (enI L)]:=by
  have:=varsG [(got,some got.c),(a,some a.c),((⟨[],0⟩:Ex),(none:Option Rat))] ftZ (fun x=>oN x.2) (fun x=>oA x.2) (fun x=>oB x.2) (by simp) (by
   intro e he
   simp at he
   rcases he with rfl | rfl | rfl
   ·exact hg.len 1000000 (by omega)
   ·exact ha.len 1000000 (by omega)
   ·show ([]:List Tm).length≤1000000;simp)
  rw[hL]at this
  exact this
 have hlen:L.length≤30000000:=by
  have h:=varsE_spec [got,a,(⟨[],0⟩:Ex)]
  have e:varsE [got,a,(⟨[],0⟩:Ex)]=L:=by rw[←hL];rfl
  rw[e]at h
  have h3:=h.2.2
  have h1:=hg.len 1000000 (by omega)
  have h2:=ha.len 1000000 (by omega)
  simp[tot]at h3
  omega
 have hcg:=fun v=>hg.coefQ v (by omega)
 have hca:=fun v=>ha.coefQ v (by omega)
 have hcz:=fun v=>coefZ [] none v (by simp[tb])
 have hKp:=hp.mono (by omega:k≤(N+2)*(k+1))
 have hml:(L.map fun v=>[D.v (.int .i64 v)]).length=L.length:=List.length_map ..
 clear hL
 refine Fn.of Tryz.func104 rfl (by kernel_rfl) Tryz.ntmps104 Tryz.results104 rfl fun w0 S0=>?_
 refine wk ?_
 refine c1 hfo ?_
 refine wk ?_
 refine c1 hm1 ?_
 refine wk ?_
 refine c1 hm2 ?_
 refine wk ?_
 refine c1 had ?_
 refine wk ?_
 refine c1 hcm ?_
 refine wk ?_
 refine c1 hva ?_
 refine wk ?_
 refine AC.loop (X:=Nat) (fun i=>⟨[(5,.p 5 0),(6,.p 6 0),(7,.p 7 0),(8,.p 8 0),(9,.p 9 0),(35,.d (enI L)),(36,.d (.v (.int .i64 (L.length:Int)))),(37,.d (.v (.int .i64 (i:Int))))],[(5,.box 140 ((enEQ got).map .d)),(6,.box 136 ((enQ p).map .d)),(7,.box 140 ((enEQ a).map .d)),(8,.box 136 ((enQ 0).map .d)),(9,.box 140 (zeroE.map .d))]⟩) (fun i=>i≤L.length) (fun i=>L.length-i) 0 (Nat.zero_le _) ⟨rfl,rfl,rfl,rfl,rfl,rfl,rfl,rfl,trivial⟩ ⟨rfl,rfl,rfl,rfl,rfl,trivial⟩ ?_
 intro i hi
 dsimp only at hi ⊢
 by_cases h1:i<L.length
 ·have hget:L[i]?=some L[i]:=List.getElem?_eq_getElem h1
  generalize L[i]=v at hget
  have q1:=hcg v
  have q2:=hca v
  have q3:=hcz v
  have q4:=qMul hKp (ha.coef v) (by omega)
  have q5:=qMul h0 h0 (by omega)
  rw[hz]at q5
  have b2:=hKp.mul (ha.coef v)
  have q6:=qAdd b2 h0 (by omega)
  have q7:=qCmp (hg.coef v) (b2.add h0) (by omega)
  rw[show sgnR (coef got.t v-(p*coef a.t v+0))=0 from sgnR_eq.2 (hco v)]at q7
  refine wk ?_
  refine c1 q1 ?_
  refine wk ?_
  refine c1 q2 ?_
  refine wk ?_
  refine c1 q4 ?_
  refine wk ?_
  refine c1 q3 ?_
  refine wk ?_
  refine c1 q5 ?_
  refine wk ?_
  refine c1 q6 ?_
  refine wk ?_
  refine c1 q7 ?_
  refine wk ?_
  exact⟨i+1,h1,by omega,⟨rfl,rfl,rfl,rfl,rfl,rfl,rfl,rfl,trivial⟩,⟨rfl,rfl,rfl,rfl,rfl,trivial⟩⟩
 ·refine wk ?_
  exact⟨.d rfl (.inl rfl),trivial⟩
end Go.Proofs.YtbbpecfapohlaaaGreatDoor
namespace Go.Proofs.YtbbpecfapohlaaaGreatDoor
open Go.RowKit
attribute [local irreducible] AC Do St
noncomputable def plcF (b:Int)(a:At)(t:Int):Int:=if (canL a.e.t).isEmpty=true then-1 else t-b-1
noncomputable def plcA (p:SP)(i:Nat):List Int:=List.zipWith (plcF p.b) (p.a.take i) (tidA p i).2
theorem plcA_succ{p:SP}(hp:OkSP p)(hl:∀ a∈p.a,okOp a.op){i:Nat}(h:i<p.a.length){v:Int}(hv:(tidA p (i+1)).2=(tidA p i).2++[v]):plcA p (i+1)=plcA p i++[plcF p.b p.a[i] v]:=by
 have T:=TI.all hp hl i (by omega)
 unfold plcA
 rw[hv,List.take_succ_eq_append_getElem h,List.zipWith_append (by rw[List.length_take,T.n];omega)]
 rfl
theorem plcA_len{p:SP}(hp:OkSP p)(hl:∀ a∈p.a,okOp a.op){i:Nat}(h:i≤p.a.length):(plcA p i).length=i:=by
 have T:=TI.all hp hl i h
 unfold plcA
 rw[List.length_zipWith,List.length_take,T.n]
 omega
theorem plcA_at{p:SP}{i:Nat}(h:i≤p.a.length){j:Nat}(hj:j<i){k:Nat}{v:Int}{c:Rat}{l:List Tm}(hc:canL (p.a[j]'(by omega)).e.t=(v,c)::l)(hk:(tidA p i).2[j]?=some (p.b+k+1)):(plcA p i)[j]?=some (k:Int):=by
 unfold plcA
 rw[List.getElem?_zipWith,hk,List.getElem?_take_of_lt hj,List.getElem?_eq_getElem (by omega)]
 dsimp only
 unfold plcF
 rw[hc]
 simp
 omega
def nowR(v:Int):List DV:=if v=big40 then [.d (.v (.int .i64 0)),.d (.v (.bool true))]else if v= -big40 then [.d (.v (.int .i64 0)),.d (.v (.bool false))]else [.d (.v (.int .i64 v)),.d (.v (.bool false))]
theorem nowR_mid{v:Int}(h: -big40<v∧v<big40):nowR v=[.d (.v (.int .i64 v)),.d (.v (.bool false))]:=by
 unfold nowR
 rw[if_neg (by omega),if_neg (by omega)]
set_option maxRecDepth 100000 in
set_option maxHeartbeats 8000000 in
theorem now14(p:SP)(hp:OkSP p)(hl:Loose p)(l:Int)(hk:knoL p.b p.a.length l):Fn Tryz.prog 105 [.g (enSPQ p),.d (enZ (plcA p p.a.length)),.d (.v (.int .i64 l))] (nowR (renV p.b (tidA p p.a.length).2 l)):=by
 have hb:=hl.b
 have hb1:p.b≤1000:=Int.not_lt.1 fun h=>hl.g (.inr (.inl h))
 have han:=hp.an
 have T:=TI.all hp (fun a h=>(hl.a a h).1) p.a.length (Nat.le_refl _)
 have hplen:=plcA_len hp (fun a h=>(hl.a a h).1) (Nat.le_refl p.a.length)
 obtain⟨PL,hPL⟩:∃ PL,plcA p p.a.length=PL:=⟨_,rfl⟩
 rw[hPL]at hplen ⊢
 have hlP:(PL.map zI).length=PL.length:=List.length_map ..
 have hla:(p.a.map enAQ).length=p.a.length:=List.length_map ..
 have m1:=max_sz hk.1
 have w1:IntKind.i64.wrap (0-l)= -l:=by rw[Int.zero_sub];exact IntWalk.i64_in _ (by have:=hk.1.2;omega)
 obtain⟨z1,z2⟩:=szI_ok hk.1
 have l0:=hk.1.1
 have hkn:=hk.2
 rcases renV_cases hp hl hk with ⟨h1,h2⟩ | ⟨j,hj,h1,⟨hc,h2⟩ | ⟨v,c,t,hc,k,k1,h2⟩⟩
 ·rw[h2,nowR_mid (by have:szI l≤1000:=by omega
                     unfold szI at this;unfold big40;split at this<;>omega)]
  have hz:(l<0→ -szI l=l)∧(¬l<0→szI l=l):=by unfold szI;constructor<;>intro h<;>simp[h]
  generalize szI l=z at m1 z1 z2 h1 hz hkn
  have w2:IntKind.i64.wrap (0-z)= -z:=by rw[Int.zero_sub];exact IntWalk.i64_in _ (by omega)
  by_cases h3:l<0
  ·obtain rfl:=(hz.1 h3).symm
   refine Fn.of Tryz.func105 rfl (by kernel_rfl) Tryz.ntmps105 Tryz.results105 rfl fun w0 S0=>?_
   refine wa ?_
   ((try (first | intro K ms hms hK | intro K hK));(first | apply Chain.go | apply Chain.goD);exact rfl;exact rfl;exact Loc.negM rfl rfl w1)
   refine wa ?_
   ((try (first | intro K ms hms hK | intro K hK));(first | apply Chain.go | apply Chain.goD);exact rfl;exact rfl;exact Loc.maxZ rfl rfl rfl m1)
   refine wa ?_
   ((try (first | intro K ms hms hK | intro K hK));(first | apply Chain.go | apply Chain.goD);exact rfl;exact rfl;exact Loc.negM rfl rfl w2)
   refine wa ?_
   exact⟨.d rfl (.inl rfl),.d rfl (.inl rfl),trivial⟩
  ·obtain rfl:=(hz.2 h3).symm
   refine Fn.of Tryz.func105 rfl (by kernel_rfl) Tryz.ntmps105 Tryz.results105 rfl fun w0 S0=>?_
   refine wa ?_
   ((try (first | intro K ms hms hK | intro K hK));(first | apply Chain.go | apply Chain.goD);exact rfl;exact rfl;exact Loc.negM rfl rfl w1)
   refine wa ?_
   ((try (first | intro K ms hms hK | intro K hK));(first | apply Chain.go | apply Chain.goD);exact rfl;exact rfl;exact Loc.maxZ rfl rfl rfl m1)
   refine wa ?_
   exact⟨.d rfl (.inl rfl),.d rfl (.inl rfl),trivial⟩
 ·rw[h2]
  have hx:=List.getElem?_eq_getElem hj
  have hok:=hp.a _ (List.getElem_mem hj)
  generalize p.a[j]=x at hx hc hok ⊢
  have hls:leadQ x.e=none:=by
   rcases lead_can x.e with ⟨g,_⟩ | ⟨v,c,m,_,g⟩
   ·exact g
   ·rw[hc]at g;cases g
  have htr:=truthQ x hok.sm (by omega)
  rw[truth_none hls]at htr
  generalize szI l=z at m1 z1 z2 h1 hkn
  by_cases h3:0<l
  ·rw[decide_eq_true h3]
   cases hs:sayB x.op x.e.c with
   | true=>
     rw[hs,if_pos rfl]at htr
     rw[if_pos rfl]
     refine Fn.of Tryz.func105 rfl (by kernel_rfl) Tryz.ntmps105 Tryz.results105 rfl fun w0 S0=>?_
     refine wa ?_
     ((try (first | intro K ms hms hK | intro K hK));(first | apply Chain.go | apply Chain.goD);exact rfl;exact rfl;exact Loc.negM rfl rfl w1)
     refine wa ?_
     ((try (first | intro K ms hms hK | intro K hK));(first | apply Chain.go | apply Chain.goD);exact rfl;exact rfl;exact Loc.maxZ rfl rfl rfl m1)
     refine wa ?_
     ((try (first | intro K ms hms hK | intro K hK));(first | apply Chain.go | apply Chain.goD);exact rfl;exact rfl;exact Loc.idxM (i:=j) rfl rfl rfl (by omega) hx rfl)
     refine wa ?_
     exact⟨.d rfl (.inl rfl),.d rfl (.inl rfl),trivial⟩
   | false=>
     rw[hs,if_neg (by decide)]at htr
     rw[if_neg (by decide)]
     refine Fn.of Tryz.func105 rfl (by kernel_rfl) Tryz.ntmps105 Tryz.results105 rfl fun w0 S0=>?_
     refine wa ?_
     ((try (first | intro K ms hms hK | intro K hK));(first | apply Chain.go | apply Chain.goD);exact rfl;exact rfl;exact Loc.negM rfl rfl w1)
     refine wa ?_
     ((try (first | intro K ms hms hK | intro K hK));(first | apply Chain.go | apply Chain.goD);exact rfl;exact rfl;exact Loc.maxZ rfl rfl rfl m1)
     refine wa ?_
     ((try (first | intro K ms hms hK | intro K hK));(first | apply Chain.go | apply Chain.goD);exact rfl;exact rfl;exact Loc.idxM (i:=j) rfl rfl rfl (by omega) hx rfl)
     refine wa ?_
     exact⟨.d rfl (.inl rfl),.d rfl (.inl rfl),trivial⟩
  ·rw[decide_eq_false h3]
   cases hs:sayB x.op x.e.c with
   | true=>
     rw[hs,if_pos rfl]at htr
     rw[if_neg (by decide)]
     refine Fn.of Tryz.func105 rfl (by kernel_rfl) Tryz.ntmps105 Tryz.results105 rfl fun w0 S0=>?_
     refine wa ?_
     ((try (first | intro K ms hms hK | intro K hK));(first | apply Chain.go | apply Chain.goD);exact rfl;exact rfl;exact Loc.negM rfl rfl w1)
     refine wa ?_
     ((try (first | intro K ms hms hK | intro K hK));(first | apply Chain.go | apply Chain.goD);exact rfl;exact rfl;exact Loc.maxZ rfl rfl rfl m1)
     refine wa ?_
     ((try (first | intro K ms hms hK | intro K hK));(first | apply Chain.go | apply Chain.goD);exact rfl;exact rfl;exact Loc.idxM (i:=j) rfl rfl rfl (by omega) hx rfl)
     refine wa ?_
     exact⟨.d rfl (.inl rfl),.d rfl (.inl rfl),trivial⟩
   | false=>
     rw[hs,if_neg (by decide)]at htr
     rw[if_pos rfl]
     refine Fn.of Tryz.func105 rfl (by kernel_rfl) Tryz.ntmps105 Tryz.results105 rfl fun w0 S0=>?_
     refine wa ?_
     ((try (first | intro K ms hms hK | intro K hK));(first | apply Chain.go | apply Chain.goD);exact rfl;exact rfl;exact Loc.negM rfl rfl w1)
     refine wa ?_
     ((try (first | intro K ms hms hK | intro K hK));(first | apply Chain.go | apply Chain.goD);exact rfl;exact rfl;exact Loc.maxZ rfl rfl rfl m1)
     refine wa ?_
     ((try (first | intro K ms hms hK | intro K hK));(first | apply Chain.go | apply Chain.goD);exact rfl;exact rfl;exact Loc.idxM (i:=j) rfl rfl rfl (by omega) hx rfl)
     refine wa ?_
     exact⟨.d rfl (.inl rfl),.d rfl (.inl rfl),trivial⟩
 ·rw[h2]
  have hkl:k<(tidA p p.a.length).1.length:=by
   rw[List.getElem?_eq_some_iff]at k1
   exact k1.1
  have hm:=T.m
  obtain⟨k',e1,e2⟩:=T.opn j hj hj v c t hc
  have hkk:k'=k:=by
   rw[List.getElem?_eq_some_iff]at k1 e2
   obtain⟨q1,q2⟩:=k1
   obtain⟨q3,q4⟩:=e2
   exact(List.getElem_inj T.nod).1 (q4.trans q2.symm)
  subst hkk
  have hpj:=plcA_at (Nat.le_refl _) hj hc e1
  rw[hPL]at hpj
  have hx:=List.getElem?_eq_getElem hj
  have hok:=hp.a _ (List.getElem_mem hj)
  generalize p.a[j]=x at hx hc hok
  have htr:=truthQ x hok.sm (by omega)
  rw[truth_some (can_lead hc).1]at htr
  generalize szI l=z at m1 z1 z2 h1 hkn
  rw[nowR_mid (by unfold big40;split<;>omega)]
  by_cases h3:l<0
  ·rw[if_pos h3,show-(p.b+(k':Int)+1)= -(p.b+1+k')by omega]
   have w2:IntKind.i64.wrap (0-(p.b+1+k'))= -(p.b+1+k'):=by rw[Int.zero_sub];exact IntWalk.i64_in _ (by omega)
   refine Fn.of Tryz.func105 rfl (by kernel_rfl) Tryz.ntmps105 Tryz.results105 rfl fun w0 S0=>?_
   refine wa ?_
   ((try (first | intro K ms hms hK | intro K hK));(first | apply Chain.go | apply Chain.goD);exact rfl;exact rfl;exact Loc.negM rfl rfl w1)
   refine wa ?_
   ((try (first | intro K ms hms hK | intro K hK));(first | apply Chain.go | apply Chain.goD);exact rfl;exact rfl;exact Loc.maxZ rfl rfl rfl m1)
   refine wa ?_
   ((try (first | intro K ms hms hK | intro K hK));(first | apply Chain.go | apply Chain.goD);exact rfl;exact rfl;exact Loc.idxM (i:=j) rfl rfl rfl (by omega) hx rfl)
   refine wa ?_
   ((try (first | intro K ms hms hK | intro K hK));(first | apply Chain.go | apply Chain.goD);exact rfl;exact rfl;exact Loc.idxM (i:=j) rfl rfl rfl (by omega) hpj rfl)
   refine wa ?_
   first | exact⟨.d rfl (.inl rfl),.d rfl (.inl rfl),trivial⟩ | (((try (first | intro K ms hms hK | intro K hK));(first | apply Chain.go | apply Chain.goD);exact rfl;exact rfl;exact Loc.negM rfl rfl w2);refine wa ?_;exact⟨.d rfl (.inl rfl),.d rfl (.inl rfl),trivial⟩)
  ·rw[if_neg h3,show p.b+(k':Int)+1=p.b+1+k' by omega]
   refine Fn.of Tryz.func105 rfl (by kernel_rfl) Tryz.ntmps105 Tryz.results105 rfl fun w0 S0=>?_
   refine wa ?_
   ((try (first | intro K ms hms hK | intro K hK));(first | apply Chain.go | apply Chain.goD);exact rfl;exact rfl;exact Loc.negM rfl rfl w1)
   refine wa ?_
   ((try (first | intro K ms hms hK | intro K hK));(first | apply Chain.go | apply Chain.goD);exact rfl;exact rfl;exact Loc.maxZ rfl rfl rfl m1)
   refine wa ?_
   ((try (first | intro K ms hms hK | intro K hK));(first | apply Chain.go | apply Chain.goD);exact rfl;exact rfl;exact Loc.idxM (i:=j) rfl rfl rfl (by omega) hx rfl)
   refine wa ?_
   ((try (first | intro K ms hms hK | intro K hK));(first | apply Chain.go | apply Chain.goD);exact rfl;exact rfl;exact Loc.idxM (i:=j) rfl rfl rfl (by omega) hpj rfl)
   refine wa ?_
   exact⟨.d rfl (.inl rfl),.d rfl (.inl rfl),trivial⟩
end Go.Proofs.YtbbpecfapohlaaaGreatDoor
