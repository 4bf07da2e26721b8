import Derived.Test.YtbbpecfapohlaaaGreatDoorPfB
import Derived.Test.YtbbpecfapohlaaaGreatDoorFkC
set_option maxRecDepth 100000
set_option maxHeartbeats 8000000
namespace Go.Proofs.YtbbpecfapohlaaaGreatDoor
open Go.RowKit
attribute [local irreducible] AC Do St
theorem chk_at{p:SP}(hp:OkSP p)(hk:chkP p=0):0≤p.b∧p.b≤1000∧∀ a∈p.a,OkAt a∧okOp a.op:=by
 obtain⟨hg,_,hb,hA,_⟩:=chkP_zero hk;refine⟨hb,Int.not_lt.1 fun h=>hg (.inr (.inl h)),fun a ha=>⟨hp.a a ha,?_⟩⟩;obtain⟨i,hi,rfl⟩:=List.getElem_of_mem ha;exact(hA i hi).2.2.1
theorem oppN_fk{p:SP}(ha:∀ a∈p.a,OkAt a∧okOp a.op){s:Stp}(hs:StO s){i:Nat}(hi:i≤s.cl.length){L:List At}(h:oppN p s.cl i=some L):FkL L s.tm:=by
 obtain⟨h1,h2⟩:=oppN_mem h;refine⟨fun a h=>?_,hs.bd,by have:=hs.cn;omega⟩;obtain⟨l,_,hl⟩:=h2 a h;exact oppP_fk ha hl
theorem enA_snoc(L:List At)(a:At):(L++[a]).map enA=L.map enA++[enA a]:=by rw[List.map_append];rfl
theorem len_snoc{α:Type}(L:List α)(a:α):(L++[a]).length=L.length+1:=by rw[List.length_append];rfl
theorem folAssume(p:SP)(B:List Stp)(s:Stp)(hp:OkSP p)(hs:StO s)(hr:s.rule=1)(R:Bool)(hR:R=true↔givP p B s):Fn Tryz.prog 63 [.g (enSP p),.d (.l (B.map enS)),.g (enS s)] [.d (.v (.bool R))]:=by
 have hcn:=hp.cn;have hlc:(p.c.map enCl).length=p.c.length:=List.length_map ..;have hg:givP p B s↔0≤s.idx∧p.c[s.idx.toNat]?=some s.cl:=by
  unfold givP;constructor
  ·rintro (⟨_,h⟩ | ⟨h,_⟩ | ⟨h,_⟩)
   ·exact h
   ·omega
   ·omega
  ·exact fun h=> .inl ⟨hr,h⟩
 have hno:¬ (0≤s.idx∧p.c[s.idx.toNat]?=some s.cl)→R=false:=fun h=>by
  cases R with
  | false=>rfl
  | true=>exact absurd (hg.1 (hR.1 rfl)) h
 by_cases h1:s.idx<0
 ·obtain rfl:=hno fun h=>by omega
  clear hno hR hg;refine Fn.of Tryz.func63 rfl (by kernel_rfl) Tryz.ntmps63 Tryz.results63 rfl fun w0 S0=>?_;refine wa ?_;exact⟨.d rfl (.inl rfl),trivial⟩
 obtain⟨i,hi⟩:∃ i:Nat,s.idx=i:=⟨s.idx.toNat,by omega⟩
 have e:s.idx.toNat=i:=by omega
 rw[e]at hg hno;by_cases h2:i<p.c.length
 ·have gx:=List.getElem?_eq_getElem h2;rw[gx]at hg hno;have heq:=equalZ s.cl p.c[i] (by have:=hs.cn;omega);have gc:=gx;have e2:decide (s.cl=p.c[i])=R:=by
   by_cases h3:s.cl=p.c[i]
   ·rw[decide_eq_true h3,hR.2 (hg.2 ⟨by omega,by rw[h3]⟩)]
   ·rw[decide_eq_false h3,hno fun h=>h3 (Option.some.inj h.2).symm]
  rw[e2]at heq;generalize p.c[i]=c at heq gc;clear hno hR hg e2;refine Fn.of Tryz.func63 rfl (by kernel_rfl) Tryz.ntmps63 Tryz.results63 rfl fun w0 S0=>?_;refine wa ?_;((try (first | intro K ms hms hK | intro K hK));(first | apply Chain.go | apply Chain.goD);exact rfl;exact rfl;exact Loc.idxM (i:=i) rfl rfl rfl (by omega) gc rfl);refine wa ?_;exact⟨.d rfl (.inl rfl),trivial⟩
 ·obtain rfl:=hno fun h=>by rw[List.getElem?_eq_none (by omega)]at h;cases h.2
  clear hno hR hg;refine Fn.of Tryz.func63 rfl (by kernel_rfl) Tryz.ntmps63 Tryz.results63 rfl fun w0 S0=>?_;refine wa ?_;exact⟨.d rfl (.inl rfl),trivial⟩
theorem folTheory(p:SP)(B:List Stp)(s:Stp)(hp:OkSP p)(hk:chkP p=0)(hs:StO s)(hr:s.rule=2)(R:Bool)(hR:R=true↔givP p B s):Fn Tryz.prog 63 [.g (enSP p),.d (.l (B.map enS)),.g (enS s)] [.d (.v (.bool R))]:=by
 obtain⟨hb,hb1,ha⟩:=chk_at hp hk;have han:=hp.an;have hcn:=hs.cn;have hcl:=hs.cl;have hg:givP p B s↔∃ L,oppN p s.cl s.cl.length=some L∧fkI L s.tm=0∧rfuQ L s.tm:=by
  unfold givP;constructor
  ·rintro (⟨h,_⟩ | ⟨_,h⟩ | ⟨h,_⟩)
   ·omega
   ·exact h
   ·omega
  ·exact fun h=> .inr (.inl ⟨hr,h⟩)
 rw[hg]at hR;clear hg;have hno:oppN p s.cl s.cl.length=none→R=false:=fun h=>by
  cases R with
  | false=>rfl
  | true=>
    obtain⟨L,hL,_⟩:=hR.1 rfl;rw[h]at hL;cases hL
 have hyes:∀ L,oppN p s.cl s.cl.length=some L→(R=true↔fkI L s.tm=0∧rfuQ L s.tm):=fun L h=>hR.trans ⟨fun⟨M,h1,h2⟩=>by
  rw[h]at h1;obtain rfl:=Option.some.inj h1;exact h2,fun h2=>⟨L,h,h2⟩⟩
 have hopp:=fun l (hl:l∈s.cl)=>oppositeF p l (hcl l hl) hb hb1 (by omega) ha;have hfk:∀ {i:Nat},i≤s.cl.length→∀ {L:List At},oppN p s.cl i=some L→FkL L s.tm:=fun hi _ h=>oppN_fk ha hs hi h;have hmem:∀ {i:Nat} {L:List At},oppN p s.cl i=some L→L.length≤i:=fun h=>(oppN_mem h).1;clear hR hs hp hk ha;refine Fn.of Tryz.func63 rfl (by kernel_rfl) Tryz.ntmps63 Tryz.results63 rfl fun w0 S0=>?_;refine wa ?_;refine AC.rowVar 7 65 108 5 rfl rfl ?_;refine wa ?_;refine AC.loop (X:=Nat×List At) (fun x=>⟨[(3,.p 3 0),(5,.p 5 0),(7,.r 65 x.2.length),(48,.d (enZ s.cl)),(49,.d (.v (.int .i64 (s.cl.length:Int)))),(50,.d (.v (.int .i64 (x.1:Int))))],[(3,.box 29 ((enSP p).map .d)),(5,.box 57 ((enS s).map .d)),(65,.row x.2.length 108 5 (x.2.map enA))]⟩) (fun x=>x.1≤s.cl.length∧oppN p s.cl x.1=some x.2) (fun x=>s.cl.length-x.1) (0,[]) ⟨Nat.zero_le _,rfl⟩ ⟨rfl,rfl,rfl,rfl,rfl,rfl,trivial⟩ ⟨rfl,rfl,rfl,trivial⟩ ?_;intro ⟨i,L⟩ ⟨hi,hf⟩;dsimp only at hi hf ⊢;have hLl:=hmem hf;by_cases h1:i<s.cl.length
 ·have gl:=List.getElem?_eq_getElem h1;have ho:=hopp _ (List.getElem_mem h1);have hn1:=oppN_no h1 hf;have hy1:=fun a=>oppN_yes (a:=a) h1 hf;generalize s.cl[i]=l at gl ho hn1 hy1;unfold oppR at ho;cases e:oppP p l with
  | none=>
    rw[e]at ho;obtain rfl:=hno (oppN_up (hn1 e) _ (by omega));clear hyes hopp hfk hmem hn1 hy1 hno;refine wa ?_;exact⟨.d rfl (.inl rfl),trivial⟩
  | some a=>
    rw[e]at ho;have hy:=hy1 a e;have e1:=enA_snoc L a;have e2:=len_snoc L a;have hLm:(L.map enA).length=L.length:=List.length_map ..;clear hyes hopp hfk hmem hn1 hy1 hno;refine wa ?_;exact⟨(i+1,L++[a]),⟨h1,hy⟩,by dsimp only;omega,⟨rfl,rfl,by dsimp only;rw[e2];rfl,rfl,rfl,rfl,trivial⟩,⟨rfl,rfl,by dsimp only;rw[e1,e2];rfl,trivial⟩⟩
 ·have e:i=s.cl.length:=by omega
  subst e;have hy:=hyes L hf;have hq:=farkasRefutes L s.tm (hfk hi hf) R hy;clear hyes hopp hfk hmem hno;refine AC.frzVar 7 rfl rfl ?_;by_cases h2:fkI L s.tm=0
  ·rw[h2]at hq;clear hy;refine wa ?_;exact⟨.d rfl (.inl rfl),trivial⟩
  ·have hf:R=false:=by
    cases R with
    | false=>rfl
    | true=>exact absurd (hy.1 rfl).1 h2
   subst hf;generalize fkI L s.tm=e at hq h2;clear hy;refine wa ?_;exact⟨.d rfl (.inl rfl),trivial⟩
theorem folChain(p:SP)(B:List Stp)(s:Stp)(hB:∀ x∈B,forP p x∧x.cl.length≤40)(hs:StO s)(hr:s.rule=3)(R:Bool)(hR:R=true↔givP p B s):Fn Tryz.prog 63 [.g (enSP p),.d (.l (B.map enS)),.g (enS s)] [.d (.v (.bool R))]:=by
 have hpn:=hs.pn;have hlp:(s.pr.map zI).length=s.pr.length:=List.length_map ..;have hlB:(B.map enS).length=B.length:=List.length_map ..;have hg:givP p B s↔2≤s.pr.length∧(∀j∈s.pr,0≤j∧j<B.length)∧chaM (s.pr.map (clA B))=some s.cl:=by
  unfold givP;constructor
  ·rintro (⟨h,_⟩ | ⟨h,_⟩ | ⟨_,h⟩)
   ·omega
   ·omega
   ·exact h
  ·exact fun h=> .inr (.inr ⟨hr,h⟩)
 rw[hg]at hR;clear hg;have hno:¬ (2≤s.pr.length∧(∀j∈s.pr,0≤j∧j<B.length)∧chaM (s.pr.map (clA B))=some s.cl)→R=false:=fun h=>by
  cases R with
  | false=>rfl
  | true=>exact absurd (hR.1 rfl) h
 by_cases h2:s.pr.length<2
 ·obtain rfl:=hno fun h=>by omega
  clear hR hno;refine Fn.of Tryz.func63 rfl (by kernel_rfl) Tryz.ntmps63 Tryz.results63 rfl fun w0 S0=>?_;refine wa ?_;exact⟨.d rfl (.inl rfl),trivial⟩
 have hbad:∀ j∈s.pr,¬(0≤j∧j<B.length)→R=false:=fun j hj h=>hno fun h3=>h (h3.2.1 j hj);have hfin:(∀j∈s.pr,0≤j∧j<B.length)→(R=true↔chaM (s.pr.map (clA B))=some s.cl):=fun h=>hR.trans ⟨fun h=>h.2.2,fun h3=>⟨by omega,h,h3⟩⟩;have hcl:∀ k (h:k<B.length),clA B (k:Int)=B[k].cl:=fun k h=>by
  unfold clA;rw[show ((k:Int)).toNat=k from rfl,List.getElem?_eq_getElem h]
 have hcK:∀ (_:∀ j∈s.pr,0≤j∧j<B.length),∀y∈s.pr.map (clA B),CanK 100 y:=fun h y hy=>by
  obtain⟨j,hj,rfl⟩:=List.mem_map.1 hy;obtain⟨h1,h2⟩:=h j hj;obtain⟨k,rfl⟩:∃ k:Nat,j=k:=⟨j.toNat,by omega⟩
  rw[hcl k (by omega)];obtain⟨h3,h4⟩:=hB _ (List.getElem_mem (show k<B.length by omega));exact h3.can (by omega)
 have hscn:=hs.cn;clear hR hno hB hs;refine Fn.of Tryz.func63 rfl (by kernel_rfl) Tryz.ntmps63 Tryz.results63 rfl fun w0 S0=>?_;refine wa ?_;refine AC.rowVar 14 105 55 1 rfl rfl ?_;refine wa ?_;refine AC.loop (X:=Nat) (fun i=>⟨[(1,.d (.l (B.map enS))),(5,.p 5 0),(14,.r 105 i),(84,.d (enZ s.pr)),(85,.d (.v (.int .i64 (s.pr.length:Int)))),(86,.d (.v (.int .i64 (i:Int))))],[(5,.box 57 ((enS s).map .d)),(105,.row i 55 1 (((s.pr.take i).map (clA B)).map enCl))]⟩) (fun i=>i≤s.pr.length∧∀ j∈s.pr.take i,0≤j∧j<B.length) (fun i=>s.pr.length-i) 0 ⟨Nat.zero_le _,by simp⟩ ⟨rfl,rfl,rfl,rfl,rfl,rfl,trivial⟩ ⟨rfl,rfl,trivial⟩ ?_;intro i ⟨hi,hz⟩;dsimp only at hi hz ⊢;by_cases h1:i<s.pr.length
 ·have gl:=List.getElem?_eq_getElem h1;have hb:=hbad _ (List.getElem_mem h1);have hal:=fun h=>all_take (P:=fun j=>0≤j∧j<(B.length:Int)) h1 hz h;have hts:((s.pr.take (i+1)).map (clA B)).map enCl=((s.pr.take i).map (clA B)).map enCl++[enCl (clA B s.pr[i])]:=by
   rw[List.take_succ_eq_append_getElem h1,List.map_append,List.map_append];rfl
  have hlr:(((s.pr.take i).map (clA B)).map enCl).length=i:=by rw[List.length_map,List.length_map,List.length_take];omega
  generalize s.pr[i]=j at gl hb hal hts;by_cases h3:j<0
  ·obtain rfl:=hb (by omega);clear hbad hfin hcl hcK hal hb;refine wa ?_;exact⟨.d rfl (.inl rfl),trivial⟩
  by_cases h4:(B.length:Int)≤j
  ·obtain rfl:=hb (by omega);clear hbad hfin hcl hcK hal hb;refine wa ?_;exact⟨.d rfl (.inl rfl),trivial⟩
  ·obtain⟨k,rfl⟩:∃ k:Nat,j=k:=⟨j.toNat,by omega⟩
   have hkB:k<B.length:=by omega
   have gb:=List.getElem?_eq_getElem hkB;rw[hcl k hkB]at hts;have hn:=hal ⟨by omega,by omega⟩;generalize B[k]=b at gb hts;clear hbad hfin hcl hcK hal hb;refine wa ?_;exact⟨i+1,⟨h1,hn⟩,by omega,⟨rfl,rfl,rfl,rfl,rfl,rfl,trivial⟩,⟨rfl,by dsimp only;rw[hts];rfl,trivial⟩⟩
 ·rw[List.take_of_length_le (by omega)]at hz ⊢;have hfi:=hfin hz;have hcK1:=hcK hz;have hlm:(s.pr.map (clA B)).length=s.pr.length:=List.length_map ..;clear hbad hfin hcl hcK;refine AC.frzVar 14 rfl rfl ?_;generalize s.pr.map (clA B)=Y at hfi hcK1 hlm;cases Y with
  | nil=>simp at hlm;omega
  | cons c cs=>
    have hch:=chainF c cs (hcK1 c (by simp)) (fun x hx=>hcK1 x (List.mem_cons_of_mem _ hx)) (by rw[List.length_cons]at hlm;omega);unfold chaR at hch;have hM:chaM (c::cs)=chaI c cs:=rfl;rw[hM]at hfi;cases e:chaI c cs with
    | none=>
      rw[e]at hch hfi;have hf:R=false:=by
       cases R with
       | false=>rfl
       | true=>cases hfi.1 rfl
      subst hf;clear hfi hcK1;refine wa ?_;exact⟨.d rfl (.inl rfl),trivial⟩
    | some x=>
      rw[e]at hch hfi;have heq:=equalZ x s.cl (by have:=chaI_len hcK1 e;rw[List.length_cons]at hlm;omega);have e2:decide (x=s.cl)=R:=by
       by_cases h3:x=s.cl
       ·rw[decide_eq_true h3,hfi.2 (by rw[h3])]
       ·rw[decide_eq_false h3];cases R with
        | false=>rfl
        | true=>exact absurd (Option.some.inj (hfi.1 rfl)) h3
      rw[e2]at heq;clear hfi hcK1 e2;dsimp only at hch;refine wa ?_;exact⟨.d rfl (.inl rfl),trivial⟩
end Go.Proofs.YtbbpecfapohlaaaGreatDoor
namespace Go.Proofs.YtbbpecfapohlaaaGreatDoor
open Go.RowKit
attribute [local irreducible] AC Do St
noncomputable def opqR (p:SP)(l:Int):List DV:=match oppP p l with
 | some a=>[.g (enAQ a),.d (.v (.bool true))]
 | none=>[.g zeroA,.d (.v (.bool false))]
theorem scale_neg{e:Ex}(h:Form e.t):scaleE (-1) e=⟨e.t.map (fun t=>(t.1,-t.2)),-e.c⟩:=by
 unfold scaleE;rw[canL_form (scale_form (by decide) h),show (-1:Rat)*e.c= -e.c by grind]
 congr 1
 refine List.map_congr_left fun t _=>?_;show (t.1,-1*t.2)=_;rw[show (-1:Rat)*t.2= -t.2 by grind]
theorem opposite22(p:SP)(l:Int)(hr:inR l)(hb:0≤p.b)(hb1:p.b≤1000)(hn:p.a.length≤1000)(ha:∀ a∈p.a,OkAt a∧okOp a.op∧Form a.e.t):Fn Tryz.prog 125 [.g (enSPQ p),.d (.v (.int .i64 l))] (opqR p l):=by
 have hla:(p.a.map enAQ).length=p.a.length:=List.length_map ..;obtain⟨R,hR⟩:∃ R,opqR p l=R:=⟨_,rfl⟩
 have hR0:oppP p l=none→R=[.g zeroA,.d (.v (.bool false))]:=fun h=>by rw[←hR];unfold opqR;rw[h]
 have hR1:∀ a,oppP p l=some a→R=[.g (enAQ a),.d (.v (.bool true))]:=fun a h=>by rw[←hR];unfold opqR;rw[h]
 rw[hR];clear hR;by_cases h0:l=0
 ·obtain rfl:=hR0 (by unfold oppP;rw[if_pos (.inl h0)]);refine Fn.of Tryz.func125 rfl (by kernel_rfl) Tryz.ntmps125 Tryz.results125 rfl fun w0 S0=>?_;refine wa ?_;exact⟨.cn rfl rfl inferInstance rfl ⟨.inr rfl,.inl rfl,.inr rfl,.inr rfl,.inl rfl,trivial⟩,.d rfl (.inl rfl),trivial⟩
 by_cases h1:l= -9223372036854775808
 ·obtain rfl:=hR0 (by unfold oppP;rw[if_pos (.inr (.inl h1))]);refine Fn.of Tryz.func125 rfl (by kernel_rfl) Tryz.ntmps125 Tryz.results125 rfl fun w0 S0=>?_;refine wa ?_;exact⟨.cn rfl rfl inferInstance rfl ⟨.inr rfl,.inl rfl,.inr rfl,.inr rfl,.inl rfl,trivial⟩,.d rfl (.inl rfl),trivial⟩
 have hok:okLi l:=⟨h0,by have:=hr.1;omega,hr.2⟩
 have m1:=max_sz hok;have w1:IntKind.i64.wrap (0-l)= -l:=by rw[Int.zero_sub];exact IntWalk.i64_in _ (by have:=hok.2;omega)
 obtain⟨z1,z2⟩:=szI_ok hok;by_cases h2:szI l≤p.b
 ·obtain rfl:=hR0 (by unfold oppP;rw[if_pos (.inr (.inr h2))]);generalize szI l=z at m1 z1 z2 h2;refine Fn.of Tryz.func125 rfl (by kernel_rfl) Tryz.ntmps125 Tryz.results125 rfl fun w0 S0=>?_;refine wa ?_;((try (first | intro K ms hms hK | intro K hK));(first | apply Chain.go | apply Chain.goD);exact rfl;exact rfl;exact Loc.negM rfl rfl w1);refine wa ?_;((try (first | intro K ms hms hK | intro K hK));(first | apply Chain.go | apply Chain.goD);exact rfl;exact rfl;exact Loc.maxZ rfl rfl rfl m1);refine wa ?_;exact⟨.cn rfl rfl inferInstance rfl ⟨.inr rfl,.inl rfl,.inr rfl,.inr rfl,.inl rfl,trivial⟩,.d rfl (.inl rfl),trivial⟩
 obtain⟨v,hv⟩:∃ v:Nat,szI l=(v:Int)+p.b+1:=⟨(szI l-p.b-1).toNat,by omega⟩
 have hop:oppP p l=match p.a[v]? with
  | none=>none
  | some a=>if l<0 then some a else if a.op=1 then some ⟨scaleE (-1) a.e,2⟩else if a.op=2 then some ⟨scaleE (-1) a.e,1⟩else none:=by
  unfold oppP;rw[if_neg (by rintro (h | h | h)<;>omega),show (szI l-1-p.b).toNat=v by omega];cases p.a[v]?<;>rfl
 generalize szI l=z at m1 z1 z2 h2 hv;by_cases h3:v<p.a.length
 ·have gx:=List.getElem?_eq_getElem h3;obtain⟨ho,hoo,hfo⟩:=ha _ (List.getElem_mem h3);rw[gx]at hop;have gq:=gx;generalize p.a[v]=x at gx ho hoo hfo hop gq;dsimp only at hop;by_cases h4:l<0
  ·rw[if_pos h4]at hop;obtain rfl:=hR1 x hop;refine Fn.of Tryz.func125 rfl (by kernel_rfl) Tryz.ntmps125 Tryz.results125 rfl fun w0 S0=>?_;refine wa ?_;((try (first | intro K ms hms hK | intro K hK));(first | apply Chain.go | apply Chain.goD);exact rfl;exact rfl;exact Loc.negM rfl rfl w1);refine wa ?_;((try (first | intro K ms hms hK | intro K hK));(first | apply Chain.go | apply Chain.goD);exact rfl;exact rfl;exact Loc.maxZ rfl rfl rfl m1);refine wa ?_;((try (first | intro K ms hms hK | intro K hK));(first | apply Chain.go | apply Chain.goD);exact rfl;exact rfl;exact Loc.negM rfl rfl w1);refine wa ?_;((try (first | intro K ms hms hK | intro K hK));(first | apply Chain.go | apply Chain.goD);exact rfl;exact rfl;exact Loc.maxZ rfl rfl rfl m1);refine wa ?_;((try (first | intro K ms hms hK | intro K hK));(first | apply Chain.go | apply Chain.goD);exact rfl;exact rfl;exact Loc.negM rfl rfl w1);refine wa ?_;((try (first | intro K ms hms hK | intro K hK));(first | apply Chain.go | apply Chain.goD);exact rfl;exact rfl;exact Loc.maxZ rfl rfl rfl m1);refine wa ?_;((try (first | intro K ms hms hK | intro K hK));(first | apply Chain.go | apply Chain.goD);exact rfl;exact rfl;exact Loc.idxM (i:=v) rfl rfl rfl (by omega) gq rfl);refine wa ?_;exact⟨.cn rfl rfl inferInstance rfl ⟨.inl rfl,.inl rfl,.inl rfl,.inl rfl,.inl rfl,trivial⟩,.d rfl (.inl rfl),trivial⟩
  ·rw[if_neg h4]at hop;have hq12:x.op≠3→R=[.g (enAQ ⟨⟨x.e.t.map (fun t=>(t.1,-t.2)),-x.e.c⟩,3-x.op⟩),.d (.v (.bool true))]:=fun h3=>by
    rcases okOp_cases hoo with e | e | e
    ·rw[if_pos e,scale_neg hfo]at hop;rw[hR1 _ hop,e];rfl
    ·rw[if_neg (by omega),if_pos e,scale_neg hfo]at hop;rw[hR1 _ hop,e];rfl
    ·exact absurd e h3
   by_cases e3:x.op=3
   ·rw[if_neg (by omega),if_neg (by omega)]at hop;obtain rfl:=hR0 hop;clear hq12;refine Fn.of Tryz.func125 rfl (by kernel_rfl) Tryz.ntmps125 Tryz.results125 rfl fun w0 S0=>?_;refine wa ?_;((try (first | intro K ms hms hK | intro K hK));(first | apply Chain.go | apply Chain.goD);exact rfl;exact rfl;exact Loc.negM rfl rfl w1);refine wa ?_;((try (first | intro K ms hms hK | intro K hK));(first | apply Chain.go | apply Chain.goD);exact rfl;exact rfl;exact Loc.maxZ rfl rfl rfl m1);refine wa ?_;((try (first | intro K ms hms hK | intro K hK));(first | apply Chain.go | apply Chain.goD);exact rfl;exact rfl;exact Loc.negM rfl rfl w1);refine wa ?_;((try (first | intro K ms hms hK | intro K hK));(first | apply Chain.go | apply Chain.goD);exact rfl;exact rfl;exact Loc.maxZ rfl rfl rfl m1);refine wa ?_;((try (first | intro K ms hms hK | intro K hK));(first | apply Chain.go | apply Chain.goD);exact rfl;exact rfl;exact Loc.negM rfl rfl w1);refine wa ?_;((try (first | intro K ms hms hK | intro K hK));(first | apply Chain.go | apply Chain.goD);exact rfl;exact rfl;exact Loc.maxZ rfl rfl rfl m1);refine wa ?_;((try (first | intro K ms hms hK | intro K hK));(first | apply Chain.go | apply Chain.goD);exact rfl;exact rfl;exact Loc.idxM (i:=v) rfl rfl rfl (by omega) gq rfl);refine wa ?_;exact⟨.cn rfl rfl inferInstance rfl ⟨.inr rfl,.inl rfl,.inr rfl,.inr rfl,.inl rfl,trivial⟩,.d rfl (.inl rfl),trivial⟩
   ·obtain rfl:=hq12 e3;have hng:=qNeg x.e.c;have hlt:(x.e.t.map enTQ).length=x.e.t.length:=List.length_map ..;have hxn:=ho.sm.n;have hnt:=fun q=>qNeg q;have hme:(x.e.t.map fun t=>enTQ (t.1,-t.2))=(x.e.t.map (fun t=>(t.1,-t.2))).map enTQ:=by rw[List.map_map];rfl
    have e12:x.op=1∨x.op=2:=by rcases okOp_cases hoo with e | e | e;exact .inl e;exact .inr e;exact absurd e e3
    clear hR0 hR1 hop hq12 ha hnt;rcases e12 with e | e
    all_goals
     refine Fn.of Tryz.func125 rfl (by kernel_rfl) Tryz.ntmps125 Tryz.results125 rfl fun w0 S0=>?_;refine wa ?_;((try (first | intro K ms hms hK | intro K hK));(first | apply Chain.go | apply Chain.goD);exact rfl;exact rfl;exact Loc.negM rfl rfl w1);refine wa ?_;((try (first | intro K ms hms hK | intro K hK));(first | apply Chain.go | apply Chain.goD);exact rfl;exact rfl;exact Loc.maxZ rfl rfl rfl m1);refine wa ?_;((try (first | intro K ms hms hK | intro K hK));(first | apply Chain.go | apply Chain.goD);exact rfl;exact rfl;exact Loc.negM rfl rfl w1);refine wa ?_;((try (first | intro K ms hms hK | intro K hK));(first | apply Chain.go | apply Chain.goD);exact rfl;exact rfl;exact Loc.maxZ rfl rfl rfl m1);refine wa ?_;((try (first | intro K ms hms hK | intro K hK));(first | apply Chain.go | apply Chain.goD);exact rfl;exact rfl;exact Loc.negM rfl rfl w1);refine wa ?_;((try (first | intro K ms hms hK | intro K hK));(first | apply Chain.go | apply Chain.goD);exact rfl;exact rfl;exact Loc.maxZ rfl rfl rfl m1);refine wa ?_;((try (first | intro K ms hms hK | intro K hK));(first | apply Chain.go | apply Chain.goD);exact rfl;exact rfl;exact Loc.idxM (i:=v) rfl rfl rfl (by omega) gq rfl);refine wa ?_;refine AC.rowBox 7 0 103 192 4 rfl rfl rfl ?_
     refine AC.loop (X:=Nat) (fun i=>⟨[(4,.p 4 0),(6,.p 6 0),(7,.p 7 0),(88,.d (.l (x.e.t.map enTQ))),(89,.d (.v (.int .i64 (x.e.t.length:Int)))),(90,.d (.v (.int .i64 (i:Int))))],[(4,.box 142 [.d .n,.d (.v (.bool false)),.d .n,.d .n,.d (.v (.int .i64 0))]),(6,.box 142 ((enAQ x).map .d)),(7,.box 140 (.r 103 i::(enQ (-x.e.c)).map .d)),(103,.row i 192 4 ((x.e.t.take i).map fun t=>enTQ (t.1,-t.2)))]⟩) (fun i=>i≤x.e.t.length) (fun i=>x.e.t.length-i) 0 (Nat.zero_le _) ⟨rfl,rfl,rfl,rfl,rfl,rfl,trivial⟩ ⟨rfl,rfl,rfl,rfl,trivial⟩ ?_;intro i hi;dsimp only at hi ⊢;clear hng;by_cases h5:i<x.e.t.length
     ·have gt:=List.getElem?_eq_getElem h5;have hts:((x.e.t.take (i+1)).map fun t=>enTQ (t.1,-t.2))=((x.e.t.take i).map fun t=>enTQ (t.1,-t.2))++[enTQ (x.e.t[i].1,-x.e.t[i].2)]:=by
       rw[List.take_succ_eq_append_getElem h5,List.map_append];rfl
      generalize x.e.t[i]=t at gt hts;have hng:=qNeg t.2;refine wa ?_;exact⟨i+1,h5,by omega,⟨rfl,rfl,rfl,rfl,rfl,rfl,trivial⟩,⟨rfl,rfl,rfl,by dsimp only;rw[hts];rfl,trivial⟩⟩
     ·rw[List.take_of_length_le (by omega),hme];have e5:i=x.e.t.length:=by omega
      subst e5;refine wa ?_;(first | intro K ms hms hK | intro K hK);refine Chain.frzBox 7 0 rfl rfl rfl ?_;refine wa ?_;exact⟨.cn rfl rfl inferInstance rfl ⟨.inl rfl,.inl rfl,.inl rfl,.inl rfl,.inl rfl,trivial⟩,.d rfl (.inl rfl),trivial⟩
 ·rw[List.getElem?_eq_none (by omega)]at hop;obtain rfl:=hR0 hop;refine Fn.of Tryz.func125 rfl (by kernel_rfl) Tryz.ntmps125 Tryz.results125 rfl fun w0 S0=>?_;refine wa ?_;((try (first | intro K ms hms hK | intro K hK));(first | apply Chain.go | apply Chain.goD);exact rfl;exact rfl;exact Loc.negM rfl rfl w1);refine wa ?_;((try (first | intro K ms hms hK | intro K hK));(first | apply Chain.go | apply Chain.goD);exact rfl;exact rfl;exact Loc.maxZ rfl rfl rfl m1);refine wa ?_;((try (first | intro K ms hms hK | intro K hK));(first | apply Chain.go | apply Chain.goD);exact rfl;exact rfl;exact Loc.negM rfl rfl w1);refine wa ?_;((try (first | intro K ms hms hK | intro K hK));(first | apply Chain.go | apply Chain.goD);exact rfl;exact rfl;exact Loc.maxZ rfl rfl rfl m1);refine wa ?_;exact⟨.cn rfl rfl inferInstance rfl ⟨.inr rfl,.inl rfl,.inr rfl,.inr rfl,.inl rfl,trivial⟩,.d rfl (.inl rfl),trivial⟩
end Go.Proofs.YtbbpecfapohlaaaGreatDoor
