import Derived.Test.YthdkkpocihkgbaaGreatDoorPpE
set_option maxRecDepth 100000
set_option maxHeartbeats 16000000
namespace Go.Proofs.YthdkkpocihkgbaaGreatDoor
open Go.RowKit
attribute [local irreducible] AC Do St
def Al{β:Type}(ft:β→List Tm)(f1 f2 f3:β→D)(e:β):List D:=[.l ((ft e).map bO),f1 e,f2 e,f3 e]
theorem DX{β:Type}(es:List β)(ft:β→List Tm)(f1 f2 f3:β→D)(hl:es.length≤1000)(ht:∀ e∈es,(ft e).length≤1000000):Fn Tryz.prog 259 [.d (.l (es.map (Al ft f1 f2 f3)))] [.d (C8 (es.foldl (fun o e=>dZ o (ft e)) []))]:=by
 have hpre:∀ i,i≤es.length→((es.take i).foldl (fun o e=>dZ o (ft e)) []).Pairwise (· < ·)∧((es.take i).foldl (fun o e=>dZ o (ft e)) []).length≤i*1000000:=fun i hi=>by
  obtain⟨h1,_,h3⟩:=mo ((es.take i).map fun e=>⟨ft e,0⟩);unfold iD at h1 h3;rw[List.foldl_map]at h1 h3;refine⟨h1,Nat.le_trans h3 ?_⟩;have:∀ l:List Ex,(∀e∈l,e.t.length≤1000000)→tot l≤l.length*1000000:=by
   intro l
   induction l with
   | nil=>simp[tot]
   | cons e r ih=>
     intro h;have h1:=h e (by simp);have h2:=ih (fun e he=>h e (by simp[he]));simp only[tot,List.map_cons,List.sum_cons,List.length_cons]at h2 ⊢;rw[Nat.add_mul];omega
  have h2:=this ((es.take i).map fun e=>⟨ft e,0⟩) (fun e he=>by obtain⟨x,hx,rfl⟩:=List.mem_map.1 he;exact ht x (List.mem_of_mem_take hx));rwa[List.length_map,List.length_take,Nat.min_eq_left hi]at h2
 refine Fn.of Tryz.func259 rfl (by kernel_rfl) Tryz.ntmps259 Tryz.results259 rfl fun w0 S0=>?_;refine wk ?_;refine AC.br 3 rfl rfl ?_;refine AC.loop (X:=Nat×List Int) (fun x=>⟨[(3,.d (.l (pc x.2))),(13,.d (.l (es.map (Al ft f1 f2 f3)))),(14,.d (.v (.int .i64 (es.length:Int)))),(15,.d (.v (.int .i64 (x.1:Int))))],[]⟩) (fun x=>x.1≤es.length∧x.2=(es.take x.1).foldl (fun o e=>dZ o (ft e)) []) (fun x=>es.length-x.1) (0,[]) ⟨Nat.zero_le _,rfl⟩ ⟨rfl,rfl,rfl,rfl,trivial⟩ trivial ?_;rintro ⟨i,vs⟩ ⟨hi,hvs⟩;simp only at hi hvs;dsimp only;obtain⟨hvp,hvl⟩:=hpre i hi;rw[←hvs]at hvp hvl;refine wk ?_;(first | intro K ms hms hK | intro K hK);refine s1 (fun h1=>?_) (fun h1=>?_)
 ·have hi':i<es.length:=by omega
  have hget:es[i]?=some es[i]:=List.getElem?_eq_getElem hi';have hti:=ht es[i] (List.getElem_mem hi');have hfold:=mF (fun o (e:β)=>dZ o (ft e)) [] hi';refine wk ?_;refine AC.AK (X:=Nat×List Int) (fun x=>⟨[(3,.d (.l (pc x.2))),(13,.d (.l (es.map (Al ft f1 f2 f3)))),(14,.d (.v (.int .i64 (es.length:Int)))),(15,.d (.v (.int .i64 (i:Int)))),(20,.d (.l ((ft es[i]).map bO))),(21,.d (.v (.int .i64 ((ft es[i]).length:Int)))),(22,.d (.v (.int .i64 (x.1:Int))))],[]⟩) (fun x=>x.1≤(ft es[i]).length∧x.2=dZ vs ((ft es[i]).take x.1)) (fun x=>(ft es[i]).length-x.1) (0,vs) ⟨Nat.zero_le _,rfl⟩ (fun _ _ hs=>hs.sub ⟨rfl,rfl,rfl,rfl,rfl,rfl,rfl,trivial⟩ trivial) ?_;rintro ⟨j,us⟩ ⟨hj,hus⟩;simp only at hj hus;dsimp only;obtain⟨hup,_,hul⟩:=mJ ((ft es[i]).take j) vs hvp;rw[←hus]at hup hul;have hul2:us.length≤2000000000:=by
   have:((ft es[i]).take j).length≤j:=by simp;omega
   have:i*1000000≤1000*1000000:=Nat.mul_le_mul_right _ (by omega);omega
  refine wk ?_;(first | intro K ms hms hK | intro K hK);refine s1 (fun h2=>?_) (fun h2=>?_)
  ·have hj':j<(ft es[i]).length:=by omega
   have hgetj:(ft es[i])[j]?=some (ft es[i])[j]:=List.getElem?_eq_getElem hj';have hfoldj:dZ vs ((ft es[i]).take (j+1))=jG us (ft es[i])[j].1:=by
    rw[hus];exact mF (fun o (t:Tm)=>jG o t.1) vs hj'
   generalize hx:(ft es[i])[j].1=x at hfoldj;refine wk ?_;refine AC.loop (X:=Nat×List Int×Bool×Nat) (fun y=>⟨[(7,.p 7 0),(8,.r 26 y.2.2.2),(9,.d (.v (.bool y.2.2.1))),(13,.d (.l (es.map (Al ft f1 f2 f3)))),(14,.d (.v (.int .i64 (es.length:Int)))),(15,.d (.v (.int .i64 (i:Int)))),(20,.d (.l ((ft es[i]).map bO))),(21,.d (.v (.int .i64 ((ft es[i]).length:Int)))),(22,.d (.v (.int .i64 (j:Int)))),(27,.d (.l (us.map fun v=>[.v (.int .i64 v)]))),(28,.d (.v (.int .i64 (us.length:Int)))),(29,.d (.v (.int .i64 (y.1:Int))))],[(7,.box 179 (.d (.v (.int .i64 x))::(aS (ft es[i])[j].2).map .d)),(26,.row y.2.2.2 3 1 (pc y.2.1))]⟩) (fun y=>y.1≤us.length∧(y.2.1,y.2.2.1)=(us.take y.1).foldl (bB x) ([],false)) (fun y=>us.length-y.1) (0,[],false,0) ⟨Nat.zero_le _,rfl⟩ ⟨rfl,rfl,rfl,rfl,rfl,rfl,rfl,rfl,rfl,rfl,rfl,rfl,trivial⟩ ⟨by rw[←hx];rfl,rfl,trivial⟩ ?_;rintro ⟨m,nx,dn,g⟩ ⟨hm,hs⟩;simp only at hm hs;dsimp only;have hnl:nx.length≤2*m:=by
    have:=o9 x (us.take m) ([],false);rw[←hs]at this;simp at this;omega
   have hil:(pc nx).length=nx.length:=by simp[pc]
   have hil1:(pc nx++[[D.v (.int .i64 x)]]).length=nx.length+1:=by simp[pc]
   refine wk ?_;(first | intro K ms hms hK | intro K hK);refine s1 (fun h3=>?_) (fun h3=>?_)
   ·have hm':m<us.length:=by omega
    have hgetm:us[m]?=some us[m]:=List.getElem?_eq_getElem hm';have hfm:bB x (nx,dn) us[m]=(us.take (m+1)).foldl (bB x) ([],false):=by
     rw[mF (bB x) ([],false) hm',←hs]
    generalize hv:us[m]=v at hfm hgetm;have fin1:∀ (nx':List Int) (dn':Bool),bB x (nx,dn) v=(nx',dn')→(nx',dn')=(us.take (m+1)).foldl (bB x) ([],false):=fun nx' dn' h=>by rw[←h];exact hfm
    cases dn with
    | false=>
      refine wk ?_;refine s1 (fun h4=>?_) (fun h4=>?_)
      ·refine wk ?_;refine s1 (fun h5=>?_) (fun h5=>?_)
       ·refine wk ?_;refine⟨(m+1,nx++[x]++[v],true,g+1+1),⟨by simp only;omega,fin1 _ _ (by unfold bB;simp[h4,h5])⟩,by simp only;omega,⟨rfl,rfl,rfl,rfl,rfl,rfl,rfl,rfl,rfl,rfl,rfl,rfl,trivial⟩,⟨rfl,by rw[jC,jC];rfl,trivial⟩⟩
       ·refine wk ?_;refine⟨(m+1,nx++[x],true,g+1),⟨by simp only;omega,fin1 _ _ (by unfold bB;simp[h4,h5])⟩,by simp only;omega,⟨rfl,rfl,rfl,rfl,rfl,rfl,rfl,rfl,rfl,rfl,rfl,rfl,trivial⟩,⟨rfl,by rw[jC];rfl,trivial⟩⟩
      ·have h5:v≠x:=by omega
       refine wk ?_;refine⟨(m+1,nx++[v],false,g+1),⟨by simp only;omega,fin1 _ _ (by unfold bB;simp[h4,h5])⟩,by simp only;omega,⟨rfl,rfl,rfl,rfl,rfl,rfl,rfl,rfl,rfl,rfl,rfl,rfl,trivial⟩,⟨rfl,by rw[jC];rfl,trivial⟩⟩
    | true=>
      refine wk ?_;refine s1 (fun h5=>?_) (fun h5=>?_)
      ·refine wk ?_;refine⟨(m+1,nx++[v],true,g+1),⟨by simp only;omega,fin1 _ _ (by unfold bB;simp[h5])⟩,by simp only;omega,⟨rfl,rfl,rfl,rfl,rfl,rfl,rfl,rfl,rfl,rfl,rfl,rfl,trivial⟩,⟨rfl,by rw[jC];rfl,trivial⟩⟩
      ·refine wk ?_;refine⟨(m+1,nx,true,g),⟨by simp only;omega,fin1 _ _ (by unfold bB;simp[h5])⟩,by simp only;omega,⟨rfl,rfl,rfl,rfl,rfl,rfl,rfl,rfl,rfl,rfl,rfl,rfl,trivial⟩,⟨rfl,rfl,trivial⟩⟩
   ·have hmu:us.take m=us:=List.take_of_length_le (by omega);rw[hmu]at hs;have hins:jG us x=if dn then nx else nx++[x]:=by unfold jG;simp only[←hs]
    cases dn with
    | false=>
      refine wk ?_;refine⟨(j+1,nx++[x]),⟨by simp only;omega,by simp only;rw[hfoldj,hins];rfl⟩,by simp only;omega,fun a w hs=>(St.br 3 rfl rfl hs).sub ⟨by rw[jC];rfl,rfl,rfl,rfl,rfl,rfl,rfl,trivial⟩ trivial⟩
    | true=>
      refine wk ?_;refine⟨(j+1,nx),⟨by simp only;omega,by simp only;rw[hfoldj,hins];rfl⟩,by simp only;omega,fun a w hs=>(St.br 3 rfl rfl hs).sub ⟨rfl,rfl,rfl,rfl,rfl,rfl,rfl,trivial⟩ trivial⟩
  ·have hju:(ft es[i]).take j=(ft es[i]):=List.take_of_length_le (by omega);rw[hju]at hus;refine wk ?_;refine⟨(i+1,us),⟨by simp only;omega,by simp only;rw[hfold,←hvs];exact hus⟩,by simp only;omega,⟨rfl,rfl,rfl,rfl,trivial⟩,trivial⟩
 ·have hie:es.take i=es:=List.take_of_length_le (by omega);rw[hie]at hvs;refine wk ?_;refine⟨.d rfl (.inl ?_),trivial⟩;rw[hvs];rfl
end Go.Proofs.YthdkkpocihkgbaaGreatDoor
namespace Go.Proofs.YthdkkpocihkgbaaGreatDoor
open Go.RowKit
attribute [local irreducible] AC Do St
theorem Ew(ts:List Tm)(o:Option Rat)(v:Int)(hk:tb ts+2≤50000000):Fn Tryz.prog 143 [.g (.l (ts.map bO)::ia o),.d (.v (.int .i64 v))] [.g (aS (ar ts v))]:=by
 have hlen:ts.length≤50000000:=by have:=kJ ts;omega
 have h0:=EP;refine Fn.of Tryz.func143 rfl (by kernel_rfl) Tryz.ntmps143 Tryz.results143 rfl fun w0 S0=>?_;refine wa ?_;refine AC.loop (X:=Nat) (fun i=>⟨[(1,.d (.v (.int .i64 v))),(4,.p 4 0),(5,.p 5 0),(10,.d (.l (ts.map bO))),(11,.d (.v (.int .i64 (ts.length:Int)))),(12,.d (.v (.int .i64 (i:Int))))],[(4,.box 136 [.d (.v (.bool false)),.d .n,.d .n]),(5,.box 136 ((aS (ar (ts.take i) v)).map .d))]⟩) (fun i=>i≤ts.length) (fun i=>ts.length-i) 0 (Nat.zero_le _) ⟨rfl,rfl,rfl,rfl,rfl,rfl,trivial⟩ ⟨rfl,rfl,trivial⟩ ?_;intro i hi;dsimp only at hi ⊢;by_cases h1:i<ts.length
 ·have hget:ts[i]?=some ts[i]:=List.getElem?_eq_getElem h1;have hct:=rC h1 v;have hmono:tb (ts.take i)+1+bz ts[i].2≤50000000:=by have:=sF h1;omega
  have hs:=oH (ar (ts.take i) v);have ha:=tA (qK (ts.take i) v) (bw ts[i].2) hmono;by_cases h2:ts[i].1=v
  ·rw[if_pos h2]at hct;by_cases h3:cL (ar (ts.take i) v)=0
   ·have hc':ar (ts.take (i+1)) v=ts[i].2:=by
     rw[hct,sgnR_zero.1 h3];grind
    refine wa ?_;exact⟨i+1,by omega,by omega,⟨rfl,rfl,rfl,rfl,rfl,rfl,trivial⟩,⟨rfl,by rw[hc'];rfl,trivial⟩⟩
   ·refine wa ?_;exact⟨i+1,by omega,by omega,⟨rfl,rfl,rfl,rfl,rfl,rfl,trivial⟩,⟨rfl,by rw[hct];rfl,trivial⟩⟩
  ·have hc':ar (ts.take (i+1)) v=ar (ts.take i) v:=by
    rw[hct,if_neg h2];grind
   refine wa ?_;exact⟨i+1,by omega,by omega,⟨rfl,rfl,rfl,rfl,rfl,rfl,trivial⟩,⟨rfl,by rw[hc'];rfl,trivial⟩⟩
 ·rw[List.take_of_length_le (show ts.length≤i by omega)];refine wa ?_;exact⟨.cn rfl rfl inferInstance rfl ⟨.inl rfl,.inl rfl,.inl rfl,trivial⟩,trivial⟩
def cD(a b:Ex)(v:Int):Rat:=1*ar a.t v+ -1*ar b.t v
noncomputable def pG (a b:Ex)(v:Int):Option Tm:=open Classical in if cD a b v=0 then none else some (v,cD a b v)
noncomputable def lC (a b:Ex)(vs:List Int):List Tm:=vs.filterMap (pG a b)
theorem zl(a b:Ex)(vs:List Int)(v:Int):lC a b (vs++[v])=lC a b vs++(match pG a b v with | none=>[] | some t=>[t]):=by
 unfold lC;rw[List.filterMap_append]
 congr 1
 cases h:pG a b v with
 | none=>simp[h]
 | some t=>simp[h]
structure lnE(L:Nat)(e:Ex):Prop where
 co:∀ v,bz (ar e.t v)≤L
 c:bz e.c≤L
 t:tb e.t+2≤50000000
 n:e.t.length≤1000000
theorem D6{L:Nat}(a b:Ex)(o:Option Rat)(hob:vO o=b.c)(ha:lnE L a)(hb:lnE L b)(hL:L≤10000000):Fn Tryz.prog 235 [.g (aS 1),.g (gi a),.g (aS (-1)),.g (.l (b.t.map bO)::ia o)] [.g (gi ⟨lC a b (iD [a,b]),1*a.c+ -1*b.c⟩)]:=by
 obtain⟨_,_,hv3⟩:=mo [a,b];have hvl:(iD [a,b]).length≤3000000:=by
  have h2:=ha.n;have h3:=hb.n;simp[tot]at hv3;omega
 have hV:Fn Tryz.prog 259 [.d (.l [gi a,.l (b.t.map bO)::ia o])] [.d (C8 (iD [a,b]))]:=DX [(a.t,some a.c),(b.t,o)] (fun x=>x.1) (fun x=>oN x.2) (fun x=>oA x.2) (fun x=>oB x.2) (by simp) (by
  intro e he;simp at he;rcases he with rfl | rfl
  ·exact ha.n
  ·exact hb.n)
 have m1:∀ x:Rat,bz x≤L→Fn Tryz.prog 62 [.g (aS 1),.g (aS x)] [.g (aS (1*x))]:=fun x hx=>tl (bw 1) (bw x) (by rw[uk];omega);have m2:∀ x:Rat,bz x≤L→Fn Tryz.prog 62 [.g (aS (-1)),.g (aS x)] [.g (aS (-1*x))]:=fun x hx=>tl (bw (-1)) (bw x) (by rw[gK];omega);have ad:∀ x y:Rat,bz x≤L→bz y≤L→Fn Tryz.prog 61 [.g (aS (1*x)),.g (aS (-1*y))] [.g (aS (1*x+ -1*y))]:=fun x y hx hy=>tA (bw _) (bw _) (by
  have h1:=dT 1 x;have h2:=dT (-1) y;rw[uk]at h1;rw[gK]at h2;omega)
 have hc:=ad a.c b.c ha.c hb.c;generalize hvs:iD [a,b]=vs at*;have mi:=Fq (p:= -1) o (by rw[hob];have:=hb.c;have e:bz (-1:Rat)=1:=gK;exact(show 1+bz b.c≤50000000 by omega)) (gK▸bw (-1));rw[hob]at mi;have hcb':∀ v,Fn Tryz.prog 143 [.g (.l (b.t.map bO)::ia o),.d (.v (.int .i64 v))] [.g (aS (ar b.t v))]:=fun v=>Ew b.t o v hb.t;refine Fn.of Tryz.func235 rfl (by kernel_rfl) Tryz.ntmps235 Tryz.results235 rfl fun w0 S0=>?_;refine wa ?_;refine c1 (m1 a.c ha.c) ?_;refine wa ?_;rw[show List.map D.fg [D.l (b.t.map bO),oN o,oA o,oB o]= .l (b.t.map bO)::ia o by cases o<;>rfl];refine wa ?_;refine AC.mj 9 0 46 179 4 rfl rfl rfl ?_;clear mi hc;refine AC.loop (X:=Nat) (fun j=>⟨[(4,.p 4 0),(5,.p 5 0),(6,.p 6 0),(7,.p 7 0),(8,.p 8 0),(9,.p 9 0),(26,.d (C8 vs)),(27,.d (.v (.int .i64 (vs.length:Int)))),(28,.d (.v (.int .i64 (j:Int))))],[(4,.box 136 ((aS 1).map .d)),(5,.box 175 ((gi a).map .d)),(6,.box 136 ((aS (-1)).map .d)),(7,.box 175 ((.l (b.t.map bO)::ia o).map .d)),(8,.box 175 [.d .n,.d (.v (.bool false)),.d .n,.d .n]),(9,.box 175 (AV.r 46 (lC a b (vs.take j)).length::(aS (1*a.c+ -1*b.c)).map .d)),(46,.row (lC a b (vs.take j)).length 179 4 ((lC a b (vs.take j)).map bO))]⟩) (fun j=>j≤vs.length∧(lC a b (vs.take j)).length≤j) (fun j=>vs.length-j) 0 ⟨Nat.zero_le _,Nat.le_refl _⟩ ⟨rfl,rfl,rfl,rfl,rfl,rfl,rfl,rfl,rfl,trivial⟩ ⟨rfl,rfl,rfl,rfl,rfl,rfl,rfl,trivial⟩ ?_;intro j ⟨hj,hl⟩;dsimp only at hj hl ⊢;by_cases g1:j<vs.length
 ·have hg:vs[j]?=some vs[j]:=List.getElem?_eq_getElem g1;have htk:vs.take (j+1)=vs.take j++[vs[j]]:=List.take_succ_eq_append_getElem g1;generalize vs[j]=v at hg htk;have hsn:=zl a b (vs.take j) v;rw[←htk]at hsn;have hml:((lC a b (vs.take j)).map bO).length=(lC a b (vs.take j)).length:=List.length_map ..;have hca:=CS a v ha.t;have hcb:=hcb' v;have hma:=m1 _ (ha.co v);have hmb:=m2 _ (hb.co v);have hab:=ad _ _ (ha.co v) (hb.co v);have hsg:=oH (1*ar a.t v+ -1*ar b.t v);clear m1 m2 ad;by_cases hz:cD a b v=0
  ·have hs:cL (1*ar a.t v+ -1*ar b.t v)=0:=sgnR_zero.2 hz;rw[show pG a b v=none by unfold pG;rw[if_pos hz]]at hsn;dsimp only at hsn;rw[List.append_nil]at hsn;refine wa ?_;refine c1 hca ?_;refine wa ?_;refine c1 hma ?_;refine wa ?_;exact⟨j+1,⟨g1,by rw[hsn];omega⟩,by omega,⟨rfl,rfl,rfl,rfl,rfl,rfl,rfl,rfl,rfl,trivial⟩,⟨rfl,rfl,rfl,rfl,rfl,by dsimp only;rw[hsn];rfl,by dsimp only;rw[hsn];rfl,trivial⟩⟩
  ·have hs:cL (1*ar a.t v+ -1*ar b.t v)≠0:=fun h=>hz (sgnR_zero.1 h);rw[show pG a b v=some (v,1*ar a.t v+ -1*ar b.t v)by unfold pG;rw[if_neg hz];rfl]at hsn;dsimp only at hsn;refine wa ?_;refine c1 hca ?_;refine wa ?_;refine c1 hma ?_;refine wa ?_;exact⟨j+1,⟨g1,by rw[hsn,List.length_append];simp;omega⟩,by omega,⟨rfl,rfl,rfl,rfl,rfl,rfl,rfl,rfl,rfl,trivial⟩,⟨rfl,rfl,rfl,rfl,rfl,by dsimp only;rw[hsn,List.length_append];rfl,by dsimp only;rw[hsn,List.length_append,List.map_append];rfl,trivial⟩⟩
 ·obtain rfl:j=vs.length:=by omega
  rw[List.take_length];refine AC.gT 9 0 rfl rfl rfl ?_;refine wa ?_;exact⟨.cn rfl rfl inferInstance rfl ⟨.inl rfl,.inl rfl,.inl rfl,.inl rfl,trivial⟩,trivial⟩
theorem Ee{L:Nat}(a b:Ex)(o:Option Rat)(hob:vO o=b.c)(ha:lnE L a)(hb:lnE L b)(hL:L≤10000000):Fn Tryz.prog 202 [.g (gi a),.g (.l (b.t.map bO)::ia o)] [.g (gi ⟨lC a b (iD [a,b]),1*a.c+ -1*b.c⟩)]:=by
 have h:=D6 a b o hob ha hb hL;have i1:Fn Tryz.prog 60 [.d (.v (.int .i64 1))] [.g (aS 1)]:=by
  have:=pB 1 (by decide) (by decide);rwa[show ((1:Int):Rat)=1 from rfl]at this
 have i2:Fn Tryz.prog 60 [.d (.v (.int .i64 (-1)))] [.g (aS (-1))]:=by
  have:=pB (-1) (by decide) (by decide);rwa[show ((-1:Int):Rat)= -1 from rfl]at this
 refine Fn.of Tryz.func202 rfl (by kernel_rfl) Tryz.ntmps202 Tryz.results202 rfl fun w0 S0=>?_;refine wa ?_;refine c1 i1 ?_;refine wa ?_;exact⟨.cn rfl rfl inferInstance rfl ⟨.inl rfl,.inl rfl,.inl rfl,.inl rfl,trivial⟩,trivial⟩
theorem mY{α β:Type}{f:α→Option β}:∀ {l:List α},l.filterMap f=[]↔∀ x∈l,f x=none
 | []=>by simp
 | x::l=>by
   rw[List.filterMap_cons];cases h:f x with
   | none=>dsimp only;rw[mY];simp[h]
   | some y=>simp[h]
theorem zT(a b:Ex):(lC a b (iD [a,b])=[]∧1*a.c+ -1*b.c=0)↔gW a b=true:=by
 obtain⟨_,hv2,_⟩:=mo [a,b];rw[rQ];have hz:∀ v,pG a b v=none↔ar a.t v=ar b.t v:=fun v=>by
  unfold pG cD;constructor
  ·intro h;split at h
   ·rename_i e;grind
   ·cases h
  ·intro h;rw[if_pos (by rw[h];grind)]
 unfold lC;rw[mY];constructor
 ·rintro ⟨h1,h2⟩;refine⟨fun v=>?_,by grind⟩;by_cases hm:v∈iD [a,b]
  ·exact(hz v).1 (h1 v hm)
  ·have hn:∀ e∈[a,b],∀t∈e.t,t.1≠v:=fun e he t ht hv=>hm ((hv2 v).2 ⟨e,he,t,ht,hv⟩);rw[jW (hn a (by simp)),jW (hn b (by simp))]
 ·rintro ⟨h1,h2⟩;exact⟨fun v _=>(hz v).2 (h1 v),by rw[h2];grind⟩
theorem Ca{L:Nat}(a b:Ex)(o:Option Rat)(hob:vO o=b.c)(ha:lnE L a)(hb:lnE L b)(hL:L≤10000000):Fn Tryz.prog 156 [.g (gi a),.g (.l (b.t.map bO)::ia o)] [.d (.v (.bool (gW a b)))]:=by
 have h:=Ee a b o hob ha hb hL;have hs:=zT a b;have hq:=oH (1*a.c+ -1*b.c);generalize lC a b (iD [a,b])=ts at*;generalize 1*a.c+ -1*b.c=q at*;cases ts with
 | nil=>
   have hl:([]:List Tm).length=0:=rfl;have h:Fn Tryz.prog 202 [.g (gi a),.g (.l (b.t.map bO)::ia o)] [.g (.l (([]:List Tm).map bO)::aS q)]:=h;by_cases hz:q=0
   ·rw[hs.1 ⟨rfl,hz⟩];have h1:cL q=0:=sgnR_zero.2 hz;refine Fn.of Tryz.func156 rfl (by kernel_rfl) Tryz.ntmps156 Tryz.results156 rfl fun w0 S0=>?_;refine wa ?_;exact⟨.d rfl (.inl rfl),trivial⟩
   ·rw[show gW a b=false from Bool.eq_false_iff.2 fun h=>hz (hs.2 h).2];have h1:cL q≠0:=fun h=>hz (sgnR_zero.1 h);refine Fn.of Tryz.func156 rfl (by kernel_rfl) Tryz.ntmps156 Tryz.results156 rfl fun w0 S0=>?_;refine wa ?_;exact⟨.d rfl (.inl rfl),trivial⟩
 | cons t r=>
   have hl:(t::r).length=r.length+1:=rfl;have h:Fn Tryz.prog 202 [.g (gi a),.g (.l (b.t.map bO)::ia o)] [.g (.l ((t::r).map bO)::aS q)]:=h;rw[show gW a b=false from Bool.eq_false_iff.2 fun h=>nomatch (hs.2 h).1];refine Fn.of Tryz.func156 rfl (by kernel_rfl) Tryz.ntmps156 Tryz.results156 rfl fun w0 S0=>?_;refine wa ?_;exact⟨.d rfl (.inl rfl),trivial⟩
end Go.Proofs.YthdkkpocihkgbaaGreatDoor
namespace Go.Proofs.YthdkkpocihkgbaaGreatDoor
open Go.RowKit
attribute [local irreducible] AC Do St
theorem Bm(ok:Bool)(p:Prop)(n:Int):j4 ok p n= -1∨j4 ok p n= -2∨j4 ok p n=n+1:=by
 unfold j4;split
 ·split
  ·exact .inr (.inr rfl)
  ·exact .inr (.inl rfl)
 ·exact .inl rfl
theorem pq(i:Int)(ats:List At):∀ (t:List ST),(∀x∈t,∀(f:FT) (n:Int),0≤n→(cK i ats x f n= -1∨cK i ats x f n= -2∨(n≤cK i ats x f n∧cK i ats x f n≤n+cX x)))→∀ (fs:List FT) (o:Bool) (n:Int),0≤n→(cP i ats t fs o n= -1∨cP i ats t fs o n= -2∨(n≤cP i ats t fs o n∧cP i ats t fs o n≤n+aK t))
 | [],_,fs,o,n,h0=>by
   rw[cP,bd];split
   ·exact .inr (.inl rfl)
   ·exact .inr (.inr ⟨by omega,by omega⟩)
 | x::r,h,fs,o,n,h0=>by
   rw[cP,aj];have hx:=h x (by simp) (if o=true then .mk 0 0 []else fs.headD (.mk 0 0 [])) n h0;generalize cK i ats x (if o=true then .mk 0 0 []else fs.headD (.mk 0 0 [])) n=q at*;by_cases h1:q= -1
   ·rw[if_pos h1];exact .inl rfl
   ·rw[if_neg h1];by_cases h2:0≤q
    ·rw[if_pos h2];have hq:n≤q∧q≤n+cX x:=by omega
     rcases pq i ats r (fun y hy=>h y (by simp[hy])) fs.tail (o||decide (q= -2)) q h2 with hh | hh | hh
     ·exact .inl hh
     ·exact .inr (.inl hh)
     ·exact .inr (.inr ⟨by omega,by omega⟩)
    ·rw[if_neg h2];rcases pq i ats r (fun y hy=>h y (by simp[hy])) fs.tail (o||decide (q= -2)) n h0 with hh | hh | hh
     ·exact .inl hh
     ·exact .inr (.inl hh)
     ·exact .inr (.inr ⟨by omega,by omega⟩)
theorem ju(i:Int)(ats:List At):∀ (m:Nat) (s:ST),wX s<m→∀ (f:FT) (n:Int),0≤n→(cK i ats s f n= -1∨cK i ats s f n= -2∨(n≤cK i ats s f n∧cK i ats s f n≤n+cX s)):=by
 intro m
 induction m with
 | zero=>intro s h;omega
 | succ m ih=>
 intro s hs f n h0;obtain⟨b,w,l⟩:=s;rw[bt]at hs;rw[aY];cases b with
 | true=>
   rw[sJ]
   repeat' split
   all_goals first | exact .inl rfl | exact .inr (.inl rfl) | exact .inr (.inr ⟨by omega,by omega⟩)
 | false=>
 cases l with
 | nil=>rw[xm];exact .inl rfl
 | cons h t=>
 rw[sE];rw[aA]at hs;rw[aj];have hp:=jd h;split
 ·split
  ·split
   ·exact .inl rfl
   ·rcases pq i ats t (fun x hx=>ih x (by have:=(aO hx).1;omega)) f.s _ n h0 with hh | hh | hh
    ·exact .inl hh
    ·exact .inr (.inl hh)
    ·exact .inr (.inr ⟨by omega,by omega⟩)
  ·split
   ·exact .inl rfl
   ·unfold pe;split
    ·dsimp only;rcases Bm _ _ n with hh | hh | hh
     ·exact .inl hh
     ·exact .inr (.inl hh)
     ·exact .inr (.inr ⟨by omega,by omega⟩)
    ·exact .inl rfl
 ·exact .inl rfl
theorem yr{x y:ST}(h:cX x+wX x+(cX y+wX y)≤6001):yX x 1+yX y 1≤40000000:=by
 have h1:=Aj (cX x+cX y) (wX x+wX y+2);have h2:(cX x+cX y+(wX x+wX y+2))*(cX x+cX y+(wX x+wX y+2))≤6003*6003:=Nat.mul_le_mul (by omega) (by omega);have h3:yX x 1≤cX x*(4*(wX x+wX y+2)+1):=Nat.mul_le_mul_left _ (by omega);have h4:yX y 1≤cX y*(4*(wX x+wX y+2)+1):=Nat.mul_le_mul_left _ (by omega);have h5:cX x*(4*(wX x+wX y+2)+1)+cX y*(4*(wX x+wX y+2)+1)=4*((cX x+cX y)*(wX x+wX y+2))+(cX x+cX y):=by grind
 omega
theorem E0(i:Int){x y:ST}{k:Rat}(hk:bz k=1)(hx:gM x)(hy:gM y)(h:cX x+wX x+(cX y+wX y)≤6001):lnE 10000000 (aP i y (-k) (aP i x k ⟨[],0⟩).1).1:=by
 obtain⟨⟨s1,s2⟩,_⟩:=kt i _ x (Nat.lt_succ_self _) hx k ⟨[],0⟩;obtain⟨⟨s3,s4⟩,_⟩:=kt i _ y (Nat.lt_succ_self _) hy (-k) (aP i x k ⟨[],0⟩).1;obtain⟨l1,l2⟩:=mN i _ x (Nat.lt_succ_self _);obtain⟨l3,l4⟩:=mN i _ y (Nat.lt_succ_self _);obtain⟨b1,b2,b3⟩:=nE i _ x (Nat.lt_succ_self _) k ⟨[],0⟩;obtain⟨b4,b5,b6⟩:=nE i _ y (Nat.lt_succ_self _) (-k) (aP i x k ⟨[],0⟩).1;rw[fC,hk]at b4 b6;rw[hk]at b1 b3;have hy2:=yr h;have e0:tb (⟨[],0⟩:Ex).t=0:=rfl;have e1:(⟨[],0⟩:Ex).t.length=0:=rfl;refine⟨fun v=>?_,?_,by omega,by omega⟩
 ·rw[s3,s1,show ar (⟨[],0⟩:Ex).t v=0 from rfl,Rat.zero_add];have m1:=dT k (ar (ak i x).1.t v);have m2:=dT (-k) (ar (ak i y).1.t v);have m3:=gQ (k*ar (ak i x).1.t v) (-k*ar (ak i y).1.t v);have:=l1 v;have:=l3 v;rw[fC]at m2;omega
 ·rw[s4,s2,show (⟨[],0⟩:Ex).c=0 from rfl,Rat.zero_add];have m1:=dT k (ak i x).1.c;have m2:=dT (-k) (ak i y).1.c;have m3:=gQ (k*(ak i x).1.c) (-k*(ak i y).1.c);rw[fC]at m2;omega
