import Derived.Test.YtbbpecfapohlaaaGreatDoorPfO
import Derived.Test.YtbbpecfapohlaaaGreatDoorSmG
set_option maxRecDepth 100000
set_option maxHeartbeats 8000000
namespace Go.Proofs.YtbbpecfapohlaaaGreatDoor
open Go.RowKit
attribute [local irreducible] AC Do St
theorem form22(p:SP)(s:Stp)(hp:OkSP p)(hb:0≤p.b)(hb1:p.b≤1000)(hs:StO s)(R:Bool)(hR:R=true↔forP p s):Fn Tryz.prog 66 [.g (enSPQ p),.g (enSQ s)] [.d (.v (.bool R))]:=by
 have han:=hp.an;have hcn:=hs.cn;have hpn:=hs.pn;have htn:=hs.tn;have hla:(p.a.map enAQ).length=p.a.length:=List.length_map ..;have hgd:=good13 s.cl hs.cl (by omega);have hno:¬ forP p s→R=false:=fun h=>by
  cases e:R with
  | false=>rfl
  | true=>exact absurd (hR.1 e) h
 have hin:=hs.rule;by_cases h1:∀ l∈s.cl,okLi l
 ·rw[List.all_eq_true.2 fun l hl=>decide_eq_true (h1 l hl)]at hgd;have hcan:=canon13 s.cl h1 (by omega);have heq:=same13 (canI s.cl) s.cl (by have:=canI_len s.cl;omega);by_cases h2:canI s.cl=s.cl
  ·rw[decide_eq_true h2]at heq;rw[h2]at hcan heq;by_cases hr1:s.rule<1
   ·obtain rfl:=hno fun h=>by rcases h.2.2.2 with h | h | h<;>omega
    clear hR hno h1;refine Fn.of Tryz.func66 rfl (by kernel_rfl) Tryz.ntmps66 Tryz.results66 rfl fun w0 S0=>?_;refine wa ?_;exact⟨.d rfl (.inl rfl),trivial⟩
   by_cases hr3:3<s.rule
   ·obtain rfl:=hno fun h=>by rcases h.2.2.2 with h | h | h<;>omega
    clear hR hno h1;refine Fn.of Tryz.func66 rfl (by kernel_rfl) Tryz.ntmps66 Tryz.results66 rfl fun w0 S0=>?_;refine wa ?_;exact⟨.d rfl (.inl rfl),trivial⟩
   have hRu:(∀l∈s.cl,szI l≤p.b+p.a.length)→(R=true↔useP s):=fun h=>hR.trans ⟨fun h=>h.2.2.2,fun h3=>⟨h1,h2,h,h3⟩⟩;have hRl:∀ l∈s.cl,¬szI l≤p.b+p.a.length→R=false:=fun l hl h=>hno fun h3=>h (h3.2.2.1 l hl);clear hR hno;refine Fn.of Tryz.func66 rfl (by kernel_rfl) Tryz.ntmps66 Tryz.results66 rfl fun w0 S0=>?_;refine wa ?_;refine AC.loop (X:=Nat) (fun i=>⟨[(2,.p 2 0),(3,.p 3 0),(31,.d (enZ s.cl)),(32,.d (.v (.int .i64 (s.cl.length:Int)))),(33,.d (.v (.int .i64 (i:Int))))],[(2,.box 42 ((enSPQ p).map .d)),(3,.box 83 ((enSQ s).map .d))]⟩) (fun i=>i≤s.cl.length∧∀ l∈s.cl.take i,szI l≤p.b+p.a.length) (fun i=>s.cl.length-i) 0 ⟨Nat.zero_le _,by simp⟩ ⟨rfl,rfl,rfl,rfl,rfl,trivial⟩ ⟨rfl,rfl,trivial⟩ ?_;intro i ⟨hi,hz⟩;dsimp only at hi hz ⊢;by_cases h3:i<s.cl.length
   ·have gl:=List.getElem?_eq_getElem h3;have hok:=h1 _ (List.getElem_mem h3);have hal:=fun h=>all_take (P:=fun l=>szI l≤p.b+p.a.length) h3 hz h;have hbad:=hRl _ (List.getElem_mem h3);generalize s.cl[i]=l at gl hok hal hbad;have m1:=max_sz hok;have w1:IntKind.i64.wrap (0-l)= -l:=by rw[Int.zero_sub];exact IntWalk.i64_in _ (by have:=hok.2;omega)
    obtain⟨z1,z2⟩:=szI_ok hok;clear hRu hRl hz;generalize szI l=z at m1 z1 z2 hal hbad;by_cases h4:z≤p.b+p.a.length
    ·have hn:=hal h4;clear hbad hal;refine wa ?_;((try (first | intro K ms hms hK | intro K hK));(first | apply Chain.go | apply Chain.goD);exact rfl;exact rfl;exact Loc.negM rfl rfl w1);refine wa ?_;((try (first | intro K ms hms hK | intro K hK));(first | apply Chain.go | apply Chain.goD);exact rfl;exact rfl;exact Loc.maxZ rfl rfl rfl m1);refine wa ?_;exact⟨i+1,⟨h3,hn⟩,by omega,⟨rfl,rfl,rfl,rfl,rfl,trivial⟩,⟨rfl,rfl,trivial⟩⟩
    ·obtain rfl:=hbad h4;clear hal;refine wa ?_;((try (first | intro K ms hms hK | intro K hK));(first | apply Chain.go | apply Chain.goD);exact rfl;exact rfl;exact Loc.negM rfl rfl w1);refine wa ?_;((try (first | intro K ms hms hK | intro K hK));(first | apply Chain.go | apply Chain.goD);exact rfl;exact rfl;exact Loc.maxZ rfl rfl rfl m1);refine wa ?_;exact⟨.d rfl (.inl rfl),trivial⟩
   ·rw[List.take_of_length_le (by omega)]at hz;have hRv:=hRu hz;clear hRu hRl hz hcan heq hgd h1;have hu:useP s↔(s.rule=1∧s.pr.length=0∧s.tm.length=0)∨(s.rule=2∧s.idx=0∧s.pr.length=0)∨(s.rule=3∧s.idx=0∧s.tm.length=0):=by
     unfold useP;simp only[List.length_eq_zero_iff]
    rw[hu]at hRv;clear hu;have hlp:(s.pr.map zI).length=s.pr.length:=List.length_map ..;have hlt:(s.tm.map enQ).length=s.tm.length:=List.length_map ..;have hyes:((s.rule=1∧s.pr.length=0∧s.tm.length=0)∨(s.rule=2∧s.idx=0∧s.pr.length=0)∨(s.rule=3∧s.idx=0∧s.tm.length=0))→R=true:=hRv.2;have hnot:¬ ((s.rule=1∧s.pr.length=0∧s.tm.length=0)∨(s.rule=2∧s.idx=0∧s.pr.length=0)∨(s.rule=3∧s.idx=0∧s.tm.length=0))→R=false:=fun h=>by
     cases R with
     | false=>rfl
     | true=>exact absurd (hRv.1 rfl) h
    clear hRv;have hru:s.rule=1∨s.rule=2∨s.rule=3:=by omega
    rcases hru with r1 | r1 | r1
    ·by_cases k1:s.pr.length=0
     ·by_cases k2:s.tm.length=0
      ·obtain rfl:=hyes (.inl ⟨r1,k1,k2⟩);clear hyes hnot;refine wa ?_;exact⟨.d rfl (.inl rfl),trivial⟩
      ·obtain rfl:=hnot (by omega);clear hyes hnot;refine wa ?_;exact⟨.d rfl (.inl rfl),trivial⟩
     ·obtain rfl:=hnot (by omega);clear hyes hnot;by_cases k2:s.tm.length=0
      ·refine wa ?_;exact⟨.d rfl (.inl rfl),trivial⟩
      ·refine wa ?_;exact⟨.d rfl (.inl rfl),trivial⟩
    ·by_cases k1:s.idx=0
     ·by_cases k2:s.pr.length=0
      ·obtain rfl:=hyes (.inr (.inl ⟨r1,k1,k2⟩));clear hyes hnot;refine wa ?_;exact⟨.d rfl (.inl rfl),trivial⟩
      ·obtain rfl:=hnot (by omega);clear hyes hnot;refine wa ?_;exact⟨.d rfl (.inl rfl),trivial⟩
     ·obtain rfl:=hnot (by omega);clear hyes hnot;refine wa ?_;exact⟨.d rfl (.inl rfl),trivial⟩
    ·by_cases k1:s.idx=0
     ·by_cases k2:s.tm.length=0
      ·obtain rfl:=hyes (.inr (.inr ⟨r1,k1,k2⟩));clear hyes hnot;refine wa ?_;exact⟨.d rfl (.inl rfl),trivial⟩
      ·obtain rfl:=hnot (by omega);clear hyes hnot;refine wa ?_;exact⟨.d rfl (.inl rfl),trivial⟩
     ·obtain rfl:=hnot (by omega);clear hyes hnot;refine wa ?_;exact⟨.d rfl (.inl rfl),trivial⟩
  ·rw[decide_eq_false h2]at heq;obtain rfl:=hno fun h=>h2 h.2.1;clear hR;refine Fn.of Tryz.func66 rfl (by kernel_rfl) Tryz.ntmps66 Tryz.results66 rfl fun w0 S0=>?_;refine wa ?_;exact⟨.d rfl (.inl rfl),trivial⟩
 ·have hga:(s.cl.all fun l=>decide (okLi l))=false:=by
   cases e:s.cl.all fun l=>decide (okLi l)with
   | false=>rfl
   | true=>exact absurd (fun l hl=>of_decide_eq_true (List.all_eq_true.1 e l hl)) h1
  rw[hga]at hgd;obtain rfl:=hno fun h=>h1 h.1;clear hR;refine Fn.of Tryz.func66 rfl (by kernel_rfl) Tryz.ntmps66 Tryz.results66 rfl fun w0 S0=>?_;refine wa ?_;exact⟨.d rfl (.inl rfl),trivial⟩
theorem chaI_app(ds:List (List Int)):∀ (cs:List (List Int)) (c:List Int),chaI c (cs++ds)=match chaI c cs with
  | some n=>chaI n ds
  | none=>none
 | [],c=>rfl
 | y::cs,c=>by
   rw[List.cons_append,chaI,chaI];cases resI c y with
   | none=>rfl
   | some r=>
     obtain⟨x,o⟩:=r;exact chaI_app ds cs x
theorem chaM_snoc{l:List (List Int)}(h:l≠[]){n:List Int}(h1:chaM l=some n)(y:List Int):chaM (l++[y])=match resI n y with
  | some (x,_)=>some x
  | none=>none:=by
 cases l with
 | nil=>exact absurd rfl h
 | cons c cs=>
   have h2:chaI c cs=some n:=h1;show chaI c (cs++[y])=_;rw[chaI_app,h2];dsimp only;rw[chaI];cases resI n y with
   | none=>rfl
   | some r=>rfl
theorem chaM_up{l:List (List Int)}(h:l≠[])(h1:chaM l=none)(m:List (List Int)):chaM (l++m)=none:=by
 cases l with
 | nil=>exact absurd rfl h
 | cons c cs=>
   have h2:chaI c cs=none:=h1;show chaI c (cs++m)=none;rw[chaI_app,h2]
theorem givAssume(p:SP)(l:List Stp)(i:Nat)(hi:i<l.length)(hp:OkSP p)(hr:l[i].rule=1)(R:Bool)(hR:R=true↔givP p (l.take i) l[i]):Fn Tryz.prog 67 [.g (enSPQ p),.d (.l (l.map enSQ)),.d (.v (.int .i64 (i:Int)))] [.d (.v (.bool R))]:=by
 have hcn:=hp.cn;have hlc:(p.c.map enCl).length=p.c.length:=List.length_map ..;have hll:(l.map enSQ).length=l.length:=List.length_map ..;have gs:=List.getElem?_eq_getElem hi;have hg:givP p (l.take i) l[i]↔0≤l[i].idx∧p.c[l[i].idx.toNat]?=some l[i].cl:=by
  unfold givP;constructor
  ·rintro (⟨_,h⟩ | ⟨h,_⟩ | ⟨h,_⟩)
   ·exact h
   ·omega
   ·omega
  ·exact fun h=> .inl ⟨hr,h⟩
 rw[hg]at hR;clear hg;generalize l[i]=s at hR gs hr;have hno:¬ (0≤s.idx∧p.c[s.idx.toNat]?=some s.cl)→R=false:=fun h=>by
  cases R with
  | false=>rfl
  | true=>exact absurd (hR.1 rfl) h
 by_cases h1:s.idx<0
 ·obtain rfl:=hno fun h=>by omega
  clear hno hR;refine Fn.of Tryz.func67 rfl (by kernel_rfl) Tryz.ntmps67 Tryz.results67 rfl fun w0 S0=>?_;refine wa ?_;exact⟨.d rfl (.inl rfl),trivial⟩
 obtain⟨k,hk⟩:∃ k:Nat,s.idx=k:=⟨s.idx.toNat,by omega⟩
 have e:s.idx.toNat=k:=by omega
 rw[e]at hR hno;by_cases h2:k<p.c.length
 ·have gx:=List.getElem?_eq_getElem h2;rw[gx]at hR hno;have heq:=same13 p.c[k] s.cl (by have:=(hp.cl _ (List.getElem_mem h2)).1;omega);have gc:=gx;have e2:decide (p.c[k]=s.cl)=R:=by
   by_cases h3:p.c[k]=s.cl
   ·rw[decide_eq_true h3,hR.2 ⟨by omega,by rw[h3]⟩]
   ·rw[decide_eq_false h3,hno fun h=>h3 (Option.some.inj h.2)]
  rw[e2]at heq;generalize p.c[k]=c at heq gc;clear hno hR e2;refine Fn.of Tryz.func67 rfl (by kernel_rfl) Tryz.ntmps67 Tryz.results67 rfl fun w0 S0=>?_;refine wa ?_;((try (first | intro K ms hms hK | intro K hK));(first | apply Chain.go | apply Chain.goD);exact rfl;exact rfl;exact Loc.idxM (i:=k) rfl rfl rfl (by omega) gc rfl);refine wa ?_;exact⟨.d rfl (.inl rfl),trivial⟩
 ·obtain rfl:=hno fun h=>by rw[List.getElem?_eq_none (by omega)]at h;cases h.2
  clear hno hR;refine Fn.of Tryz.func67 rfl (by kernel_rfl) Tryz.ntmps67 Tryz.results67 rfl fun w0 S0=>?_;refine wa ?_;exact⟨.d rfl (.inl rfl),trivial⟩
theorem chk_form{p:SP}(hp:OkSP p)(hk:chkP p=0):0≤p.b∧p.b≤1000∧∀ a∈p.a,OkAt a∧okOp a.op∧Form a.e.t:=by
 obtain⟨hg,_,hb,hA,_⟩:=chkP_zero hk;refine⟨hb,Int.not_lt.1 fun h=>hg (.inr (.inl h)),fun a ha=>⟨hp.a a ha,?_⟩⟩;obtain⟨i,hi,rfl⟩:=List.getElem_of_mem ha;have h:=(hA i hi).2.2;exact⟨h.1,((canP_one _).1 h).2.2.1⟩
theorem enAQ_snoc(L:List At)(a:At):(L++[a]).map enAQ=L.map enAQ++[enAQ a]:=by rw[List.map_append];rfl
theorem givTheory(p:SP)(l:List Stp)(i:Nat)(hi:i<l.length)(hp:OkSP p)(hk:chkP p=0)(hs:StO l[i])(hr:l[i].rule=2)(R:Bool)(hR:R=true↔givP p (l.take i) l[i]):Fn Tryz.prog 67 [.g (enSPQ p),.d (.l (l.map enSQ)),.d (.v (.int .i64 (i:Int)))] [.d (.v (.bool R))]:=by
 obtain⟨hb,hb1,ha⟩:=chk_form hp hk;have han:=hp.an;have hll:(l.map enSQ).length=l.length:=List.length_map ..;have gs:=List.getElem?_eq_getElem hi;have hg:givP p (l.take i) l[i]↔∃ L,oppN p l[i].cl l[i].cl.length=some L∧fkI L l[i].tm=0∧rfuQ L l[i].tm:=by
  unfold givP;constructor
  ·rintro (⟨h,_⟩ | ⟨_,h⟩ | ⟨h,_⟩)
   ·omega
   ·exact h
   ·omega
  ·exact fun h=> .inr (.inl ⟨hr,h⟩)
 rw[hg]at hR;clear hg;generalize l[i]=s at hR gs hs hr;have hcn:=hs.cn;have hcl:=hs.cl;have hno:oppN p s.cl s.cl.length=none→R=false:=fun h=>by
  cases R with
  | false=>rfl
  | true=>
    obtain⟨L,hL,_⟩:=hR.1 rfl;rw[h]at hL;cases hL
 have hyes:∀ L,oppN p s.cl s.cl.length=some L→(R=true↔fkI L s.tm=0∧rfuQ L s.tm):=fun L h=>hR.trans ⟨fun⟨M,h1,h2⟩=>by
  rw[h]at h1;obtain rfl:=Option.some.inj h1;exact h2,fun h2=>⟨L,h,h2⟩⟩
 have hopp:=fun l (hl:l∈s.cl)=>opposite22 p l (hcl l hl) hb hb1 (by omega) ha;have hfk:∀ {i:Nat},i≤s.cl.length→∀ {L:List At},oppN p s.cl i=some L→FkL L s.tm:=fun hi _ h=>oppN_fk (fun a h=>⟨(ha a h).1,(ha a h).2.1⟩) hs hi h;have hmem:∀ {i:Nat} {L:List At},oppN p s.cl i=some L→L.length≤i:=fun h=>(oppN_mem h).1;clear hR hs hp hk ha;refine Fn.of Tryz.func67 rfl (by kernel_rfl) Tryz.ntmps67 Tryz.results67 rfl fun w0 S0=>?_;refine wa ?_;refine AC.loop (X:=Nat×List At) (fun x=>⟨[(3,.p 3 0),(7,.p 7 0),(8,.r 50 x.2.length),(52,.d (enZ s.cl)),(53,.d (.v (.int .i64 (s.cl.length:Int)))),(54,.d (.v (.int .i64 (x.1:Int))))],[(3,.box 42 ((enSPQ p).map .d)),(7,.box 83 ((enSQ s).map .d)),(50,.row x.2.length 142 5 (x.2.map enAQ))]⟩) (fun x=>x.1≤s.cl.length∧oppN p s.cl x.1=some x.2) (fun x=>s.cl.length-x.1) (0,[]) ⟨Nat.zero_le _,rfl⟩ ⟨rfl,rfl,rfl,rfl,rfl,rfl,trivial⟩ ⟨rfl,rfl,rfl,trivial⟩ ?_;intro ⟨k,L⟩ ⟨hk,hf⟩;dsimp only at hk hf ⊢;have hLl:=hmem hf;by_cases h1:k<s.cl.length
 ·have gl:=List.getElem?_eq_getElem h1;have ho:=hopp _ (List.getElem_mem h1);have hn1:=oppN_no h1 hf;have hy1:=fun a=>oppN_yes (a:=a) h1 hf;generalize s.cl[k]=v at gl ho hn1 hy1;unfold opqR at ho;cases e:oppP p v with
  | none=>
    rw[e]at ho;obtain rfl:=hno (oppN_up (hn1 e) _ (by omega));clear hyes hopp hfk hmem hn1 hy1 hno;refine wa ?_;exact⟨.d rfl (.inl rfl),trivial⟩
  | some a=>
    rw[e]at ho;have hy:=hy1 a e;have e1:=enAQ_snoc L a;have e2:=len_snoc L a;have hLm:(L.map enAQ).length=L.length:=List.length_map ..;clear hyes hopp hfk hmem hn1 hy1 hno;refine wa ?_;exact⟨(k+1,L++[a]),⟨h1,hy⟩,by dsimp only;omega,⟨rfl,rfl,by dsimp only;rw[e2];rfl,rfl,rfl,rfl,trivial⟩,⟨rfl,rfl,by dsimp only;rw[e1,e2];rfl,trivial⟩⟩
 ·have e:k=s.cl.length:=by omega
  subst e;have hy:=hyes L hf;have hF:=hfk hk hf;have hc:=check20 L s.tm hF;clear hyes hopp hfk hmem hno;refine AC.frzVar 8 rfl rfl ?_;by_cases h2:fkI L s.tm=0
  ·have hl:L.length=s.tm.length:=Classical.byContradiction fun h=>by
    unfold fkI at h2;rw[if_pos h]at h2;omega
   have hq:=refutes20 L s.tm hF hl R (hy.trans ⟨fun h=>h.2,fun h=>⟨h2,h⟩⟩);rw[h2]at hc;clear hy;refine wa ?_;exact⟨.d rfl (.inl rfl),trivial⟩
  ·have hf:R=false:=by
    cases R with
    | false=>rfl
    | true=>exact absurd (hy.1 rfl).1 h2
   subst hf;generalize fkI L s.tm=e at hc h2;clear hy;refine wa ?_;exact⟨.d rfl (.inl rfl),trivial⟩
theorem givChain(p:SP)(l:List Stp)(i:Nat)(hi:i<l.length)(hB:∀ x∈l.take i,forP p x∧x.cl.length≤40)(hs:StO l[i])(hr:l[i].rule=3)(R:Bool)(hR:R=true↔givP p (l.take i) l[i]):Fn Tryz.prog 67 [.g (enSPQ p),.d (.l (l.map enSQ)),.d (.v (.int .i64 (i:Int)))] [.d (.v (.bool R))]:=by
 have hll:(l.map enSQ).length=l.length:=List.length_map ..;have gs:=List.getElem?_eq_getElem hi;have hlt:(l.take i).length=i:=by rw[List.length_take];omega
 have hg:givP p (l.take i) l[i]↔2≤l[i].pr.length∧(∀j∈l[i].pr,0≤j∧j<(i:Int))∧chaM (l[i].pr.map (clA (l.take i)))=some l[i].cl:=by
  unfold givP;rw[hlt];constructor
  ·rintro (⟨h,_⟩ | ⟨h,_⟩ | ⟨_,h⟩)
   ·omega
   ·omega
   ·exact h
  ·exact fun h=> .inr (.inr ⟨hr,h⟩)
 rw[hg]at hR;clear hg;generalize l[i]=s at hR gs hs hr;have hpn:=hs.pn;have hlp:(s.pr.map zI).length=s.pr.length:=List.length_map ..;have hno:¬ (2≤s.pr.length∧(∀j∈s.pr,0≤j∧j<(i:Int))∧chaM (s.pr.map (clA (l.take i)))=some s.cl)→R=false:=fun h=>by
  cases R with
  | false=>rfl
  | true=>exact absurd (hR.1 rfl) h
 by_cases h2:s.pr.length<2
 ·obtain rfl:=hno fun h=>by omega
  clear hR hno;refine Fn.of Tryz.func67 rfl (by kernel_rfl) Tryz.ntmps67 Tryz.results67 rfl fun w0 S0=>?_;refine wa ?_;exact⟨.d rfl (.inl rfl),trivial⟩
 have hbad:∀ j∈s.pr,¬(0≤j∧j<(i:Int))→R=false:=fun j hj h=>hno fun h3=>h (h3.2.1 j hj);have hnone:chaM (s.pr.map (clA (l.take i)))=none→R=false:=fun h=>hno fun h3=>by rw[h]at h3;cases h3.2.2
 have hfin:(∀j∈s.pr,0≤j∧j<(i:Int))→(R=true↔chaM (s.pr.map (clA (l.take i)))=some s.cl):=fun h=>hR.trans ⟨fun h=>h.2.2,fun h3=>⟨by omega,h,h3⟩⟩;have hcl:∀ k (h:k<l.length),k<i→clA (l.take i) (k:Int)=l[k].cl∧CanK 100 l[k].cl:=fun k h hki=>by
  have e1:(l.take i)[k]?=some l[k]:=by rw[List.getElem?_take_of_lt hki,List.getElem?_eq_getElem h]
  refine⟨?_,?_⟩
  ·unfold clA;rw[show ((k:Int)).toNat=k from rfl,e1]
  ·obtain⟨h3,h4⟩:=hB _ (List.mem_of_getElem? e1);exact h3.can (by omega)
 clear hR hno hB;generalize clA (l.take i)=F at hnone hfin hcl;refine Fn.of Tryz.func67 rfl (by kernel_rfl) Tryz.ntmps67 Tryz.results67 rfl fun w0 S0=>?_;refine wa ?_;refine AC.frzVar 13 rfl rfl ?_;refine AC.loop (X:=Nat×List Int) (fun x=>⟨[(1,.d (.l (l.map enSQ))),(2,.d (.v (.int .i64 (i:Int)))),(7,.p 7 0),(13,.d (enZ x.2)),(88,.d (enZ s.pr)),(89,.d (.v (.int .i64 (s.pr.length:Int)))),(90,.d (.v (.int .i64 (x.1:Int))))],[(7,.box 83 ((enSQ s).map .d))]⟩) (fun x=>x.1≤s.pr.length∧(∀j∈s.pr.take x.1,0≤j∧j<(i:Int))∧CanK (100*x.1) x.2∧(x.1≠0→chaM ((s.pr.take x.1).map F)=some x.2)) (fun x=>s.pr.length-x.1) (0,[]) ⟨Nat.zero_le _,by simp,⟨fun l h=>(by cases h),rfl,Nat.le_refl _⟩,fun h=>absurd rfl h⟩ ⟨rfl,rfl,rfl,rfl,rfl,rfl,rfl,trivial⟩ ⟨rfl,trivial⟩ ?_;intro ⟨k,now⟩ ⟨hk,hz,hK,hc⟩;dsimp only at hk hz hK hc ⊢;by_cases h1:k<s.pr.length
 ·have gl:=List.getElem?_eq_getElem h1;have hb:=hbad _ (List.getElem_mem h1);have hal:=fun h=>all_take (P:=fun j=>0≤j∧j<(i:Int)) h1 hz h;have hts:(s.pr.take (k+1)).map F=(s.pr.take k).map F++[F s.pr[k]]:=by
   rw[List.take_succ_eq_append_getElem h1,List.map_append];rfl
  have hall:s.pr.map F=(s.pr.take (k+1)).map F++(s.pr.drop (k+1)).map F:=by rw[←List.map_append,List.take_append_drop]
  have hkl:((s.pr.take k).map F).length=k:=by rw[List.length_map,List.length_take];omega
  generalize s.pr[k]=j at gl hb hal hts;by_cases h3:j<0
  ·obtain rfl:=hb (by omega);clear hbad hfin hcl hal hb hnone hc;refine wa ?_;exact⟨.d rfl (.inl rfl),trivial⟩
  by_cases h4:(i:Int)≤j
  ·obtain rfl:=hb (by omega);clear hbad hfin hcl hal hb hnone hc;refine wa ?_;exact⟨.d rfl (.inl rfl),trivial⟩
  obtain⟨m,rfl⟩:∃ m:Nat,j=m:=⟨j.toNat,by omega⟩
  have hml:m<l.length:=by omega
  have gb:=List.getElem?_eq_getElem hml;obtain⟨hc1,hc2⟩:=hcl m hml (by omega);rw[hc1]at hts;have hn:=hal ⟨by omega,by omega⟩;generalize l[m]=b at gb hts hc2;clear hbad hfin hcl hal hb;by_cases h5:k=0
  ·subst h5;clear hnone hall;have hts1:chaM ((s.pr.take (0+1)).map F)=some b.cl:=by rw[hts];rfl
   refine wa ?_;exact⟨(0+1,b.cl),⟨h1,hn,⟨hc2.ok,hc2.can,by have:=hc2.n;dsimp only;omega⟩,fun _=>hts1⟩,by dsimp only;omega,⟨rfl,rfl,rfl,rfl,rfl,rfl,rfl,trivial⟩,⟨rfl,trivial⟩⟩
  ·have hre:=resolve13 now b.cl hK.ok hc2.ok (by have:=hK.n;omega) (by have:=hc2.n;omega);have hne:(s.pr.take k).map F≠[]:=fun h=>by rw[h]at hkl;simp at hkl;omega
   have hsn:=chaM_snoc hne (hc h5) b.cl;rw[←hts]at hsn;unfold r13R at hre;cases e:resI now b.cl with
   | none=>
     rw[e]at hre hsn;have hne2:(s.pr.take (k+1)).map F≠[]:=by rw[hts];simp
     obtain rfl:=hnone (by rw[hall];exact chaM_up hne2 hsn _);clear hnone hc;dsimp only at hre;refine wa ?_;exact⟨.d rfl (.inl rfl),trivial⟩
   | some y=>
     obtain⟨y,on⟩:=y;rw[e]at hre hsn;dsimp only at hre hsn;have hon:on≠0:=resI_on hK.ok e;have hk2:=resI_can hK hc2 e;clear hnone hc;refine wa ?_;exact⟨(k+1,y),⟨h1,hn,⟨hk2.ok,hk2.can,by have:=hk2.n;dsimp only;omega⟩,fun _=>hsn⟩,by dsimp only;omega,⟨rfl,rfl,rfl,rfl,rfl,rfl,rfl,trivial⟩,⟨rfl,trivial⟩⟩
 ·rw[List.take_of_length_le (by omega)]at hz hc;have hfi:=hfin hz;rw[hc (by omega)]at hfi;have heq:=same13 now s.cl (by have:=hK.n;omega);have e2:decide (now=s.cl)=R:=by
   by_cases h3:now=s.cl
   ·rw[decide_eq_true h3,hfi.2 (by rw[h3])]
   ·rw[decide_eq_false h3];cases R with
    | false=>rfl
    | true=>exact absurd (Option.some.inj (hfi.1 rfl)) h3
  rw[e2]at heq;clear hbad hfin hcl hnone hfi e2 hc;refine wa ?_;exact⟨.d rfl (.inl rfl),trivial⟩
end Go.Proofs.YtbbpecfapohlaaaGreatDoor
