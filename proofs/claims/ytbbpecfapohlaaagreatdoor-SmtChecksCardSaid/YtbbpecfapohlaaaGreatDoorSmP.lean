import Derived.Test.YtbbpecfapohlaaaGreatDoorSmO
import Derived.Test.YtbbpecfapohlaaaGreatDoorSmG
namespace Go.Proofs.YtbbpecfapohlaaaGreatDoor
open Go.RowKit
attribute [local irreducible] AC Do St
def nexL(b:Int)(ts c:List Int):List Int:=(c.map (renV b ts)).filter fun v=>decide (v≠big40∧v≠ -big40)
theorem nexL_step{b:Int}{ts c:List Int}{i:Nat}(h:i<c.length):nexL b ts (c.take (i+1))=if renV b ts c[i]=big40∨renV b ts c[i]= -big40 then nexL b ts (c.take i)else nexL b ts (c.take i)++[renV b ts c[i]]:=by
 unfold nexL
 rw[List.take_succ_eq_append_getElem h,List.map_append,List.filter_append]
 by_cases h1:renV b ts c[i]=big40∨renV b ts c[i]= -big40
 ·rw[if_pos h1]
  have:¬ (renV b ts c[i]≠big40∧renV b ts c[i]≠ -big40):=fun h2=>by rcases h1 with h1 | h1;exact h2.1 h1;exact h2.2 h1
  simp[this]
 ·rw[if_neg h1]
  have:renV b ts c[i]≠big40∧renV b ts c[i]≠ -big40:=⟨fun h=>h1 (.inl h),fun h=>h1 (.inr h)⟩
  simp[this]
theorem nexL_eq{b:Int}{ts c:List Int}(h:¬ big40∈c.map (renV b ts)):nexL b ts c=renL b ts c:=by
 unfold nexL renL
 refine List.filter_congr fun v hv=>?_
 have:v≠big40:=fun e=>h (e▸hv)
 simp[this]
theorem kept{b:Int}{ts c:List Int}(hok:¬ big40∈c.map (renV b ts)→∀ v∈renL b ts c,okLi v):
  (renC b ts c=none∧¬ (¬big40∈c.map (renV b ts)∧∀ m∈nexL b ts c,-m∉nexL b ts c))∨(renC b ts c=some (canI (nexL b ts c))∧(¬big40∈c.map (renV b ts)∧∀ m∈nexL b ts c,-m∉nexL b ts c)):=by
 unfold renC
 by_cases h1:big40∈c.map (renV b ts)
 ·rw[if_pos h1]
  exact .inl ⟨rfl,fun h=>h.1 h1⟩
 ·rw[if_neg h1,nexL_eq h1]
  have hal:=altB_iff (canI_srt (renL b ts c)) fun l hl=>hok h1 l ((canI_mem _ _).1 hl)
  by_cases h2:altB (canI (renL b ts c))=true
  ·rw[if_pos h2]
   obtain⟨m,m1,m2⟩:=hal.1 h2
   exact .inl ⟨rfl,fun h=>h.2 m ((canI_mem _ _).1 m1) ((canI_mem _ _).1 m2)⟩
  ·rw[if_neg h2]
   exact .inr ⟨rfl,h1,fun m m1 m2=>h2 (hal.2 ⟨m,(canI_mem _ _).2 m1,(canI_mem _ _).2 m2⟩)⟩
def oppB(l:List Int)(i:Nat):Bool:=(l.take i).all fun m=>!decide (-m∈l)
theorem oppB_succ{l:List Int}{i:Nat}(h:i<l.length):oppB l (i+1)=(oppB l i&&!decide (-l[i]∈l)):=by
 unfold oppB
 rw[List.take_succ_eq_append_getElem h,List.all_append]
 simp
theorem oppB_all{l:List Int}{i:Nat}(h:l.length≤i):oppB l i=true↔∀ m∈l,-m∉l:=by
 unfold oppB
 rw[List.take_of_length_le h,List.all_eq_true]
 simp
theorem tid_new{p:SP}{i:Nat}(h:i<p.a.length){v:Int}{c:Rat}{l:List Tm}(hc:canL p.a[i].e.t=(v,c)::l)(hk:plT p.a p.a[i]=i):(tidA p p.a.length).1[(tidA p i).1.length]?=some (canA p.a[i] c)∧(tidA p (i+1)).1.length=(tidA p i).1.length+1:=by
 have hs:=tidA_succ p h
 rw[tidS_new _ hc (by omega)]at hs
 obtain⟨m,e⟩:=tidA_pre p (show i+1≤p.a.length by omega)
 rw[e,hs]
 dsimp only
 refine⟨?_,by simp⟩
 rw[List.append_assoc,List.getElem?_append_right (Nat.le_refl _),Nat.sub_self]
 rfl
set_option maxRecDepth 100000 in
set_option maxHeartbeats 16000000 in
theorem tidied14(p:SP)(hp:OkSP p)(hl:Loose p):Fn Tryz.prog 50 [.g (enSPQ p),.g (enSPQ (tidP p))] [.d (.v (.bool true))]:=by
 have han:=hp.an
 have hcn:=hp.cn
 have hb0:=hl.b
 have hb1:p.b≤1000:=Int.not_lt.1 fun h=>hl.g (.inr (.inl h))
 have hop:=fun a h=>(hl.a a h).1
 have hT:=fun i (hi:i≤p.a.length)=>TI.all hp hop i hi
 have hplT:=fun i (hi:i<p.a.length)=>plT_at hp hop hi
 have hnew:=fun i (h:i<p.a.length) v c l=>tid_new h (v:=v) (c:=c) (l:=l)
 have hsame:=fun i j (hi:i<p.a.length) (hj:j<p.a.length)=>sameT p.a[j] p.a[i] (hp.a _ (List.getElem_mem hj)) (hp.a _ (List.getElem_mem hi))
 have hOk:=hp.a
 have hpA:=fun i (h:i<p.a.length) v=>plcA_succ hp hop h (v:=v)
 have hpL:=fun i (h:i≤p.a.length)=>plcA_len hp hop h
 have hpAt:=fun i (h:i≤p.a.length) j (hj:j<i) k v c l=>plcA_at h hj (k:=k) (v:=v) (c:=c) (l:=l)
 have hnow:=fun l hk=>now14 p hp hl l hk
 have hkept:∀ c∈p.c,_:=fun c hc=>kept (b:=p.b) (ts:=(tidA p p.a.length).2) (c:=c) fun h v hv=>(renL_ok hp hl (hl.c c hc) h v hv).1.1
 have hcl:=hl.c
 have hclen:=hp.cl
 have hren:=fun c (hc:c∈p.c) l (h:l∈c)=>ren_ok hp hl (hl.c c hc l h)
 have htid:tidP p=⟨p.r,p.b,(tidA p p.a.length).1,p.c.filterMap (renC p.b (tidA p p.a.length).2)⟩:=rfl
 have hokt:=(tidP_ok hp hl).1
 have hwl:∀ w∈(tidP p).c,w.length≤70:=fun w hw=>(hokt.cl w hw).1
 rw[htid]at hwl ⊢
 dsimp only at hwl
 have hwn:(p.c.filterMap (renC p.b (tidA p p.a.length).2)).length≤60:=hokt.cn
 clear htid hl hokt
 have hla:(p.a.map enAQ).length=p.a.length:=List.length_map ..
 have hlc:(p.c.map enCl).length=p.c.length:=List.length_map ..
 obtain⟨q,hq⟩:∃ q:SP,q=⟨p.r,p.b,(tidA p p.a.length).1,p.c.filterMap (renC p.b (tidA p p.a.length).2)⟩:=⟨_,rfl⟩
 rw[←hq]
 have hqr:q.r=p.r:=by rw[hq]
 have hqb:q.b=p.b:=by rw[hq]
 have hqa:q.a=(tidA p p.a.length).1:=by rw[hq]
 have hqc:q.c=p.c.filterMap (renC p.b (tidA p p.a.length).2):=by rw[hq]
 have hlq:(q.a.map enAQ).length=q.a.length:=List.length_map ..
 have hlqc:(q.c.map enCl).length=q.c.length:=List.length_map ..
 refine Fn.of Tryz.func50 rfl (by kernel_rfl) Tryz.ntmps50 Tryz.results50 rfl fun w0 S0=>?_
 refine wa ?_
 refine AC.loop (X:=Nat) (fun i=>⟨[(2,.p 2 0),(3,.p 3 0),(5,.r 35 i),(6,.d (.v (.int .i64 ((tidA p i).1.length:Int)))),(37,.d (.l (p.a.map enAQ))),(38,.d (.v (.int .i64 (p.a.length:Int)))),(39,.d (.v (.int .i64 (i:Int))))],[(2,.box 42 ((enSPQ p).map .d)),(3,.box 42 ((enSPQ q).map .d)),(35,.row i 3 1 ((plcA p i).map zI))]⟩) (fun i=>i≤p.a.length) (fun i=>p.a.length-i) 0 (Nat.zero_le _) ⟨rfl,rfl,rfl,rfl,rfl,rfl,rfl,trivial⟩ ⟨rfl,rfl,rfl,trivial⟩ ?_
 intro i hi
 dsimp only at hi ⊢
 by_cases h5:i<p.a.length
 ·have hx:=List.getElem?_eq_getElem h5
  have hm:=List.getElem_mem h5
  have hok:=hOk _ hm
  have T:=hT i hi
  have hsucc:=tidA_succ p h5
  obtain⟨k,e1,e2,hkn,e3,e4⟩:=hplT i h5
  have hsm:=fun j hj=>hsame i j h5 hj
  have hpa:=fun v=>hpA i h5 v
  have hplen:=hpL i hi
  have hat:=hpAt i hi
  have hnw:=hnew i h5
  have hopn:=T.opn
  have hlead:canL p.a[i].e.t≠[]→canL p.a[k].e.t≠[]:=fun h h2=>h (e3.lead_iff.1 h2)
  rw[e1]at hsucc hnw
  have tn:=T.n
  have tm:=T.m
  clear hT hplT hOk hop hpA hpL hpAt hnew hsame T hnow hkept hcl hclen hren hwl hwn e1 hp
  generalize p.a[i]=x at hx hm hok hsucc e3 e4 hsm hpa hnw hlead
  have htr:=truthQ x hok.sm (by omega)
  generalize hs1:tidA p i=s at hsucc hpa hat hnw hopn tn tm ⊢
  generalize plcA p i=PL at hpa hplen hat ⊢
  obtain⟨S,L⟩:=s
  dsimp only at hsucc hpa hat hnw hopn tn tm ⊢
  have hlP:(PL.map zI).length=i:=by rw[List.length_map];exact hplen
  have hPa:∀ v,(PL++[v]).map zI=PL.map zI++[zI v]:=fun v=>by rw[List.map_append];rfl
  rcases lead_can x.e with ⟨hl,h0⟩ | ⟨v,c,l,hl,h0⟩
  ·rw[tidS_shut _ h0]at hsucc
   have hpn:=hpa _ (by rw[hsucc])
   have hpf:∀ u,plcF p.b x u= -1:=fun u=>by unfold plcF;rw[h0];rfl
   rw[hpf]at hpn
   have ht0:truthI x≠0:=by rcases truth_shut hl with h | h<;>omega
   generalize truthI x=tr at htr ht0
   clear hsm hat hopn hnw hlead e3 e4
   refine wa ?_
   refine AC.loop (X:=Nat) (fun j=>⟨[(2,.p 2 0),(3,.p 3 0),(5,.r 35 i),(6,.d (.v (.int .i64 (S.length:Int)))),(7,.d (.v (.int .i64 (i:Int)))),(8,.p 8 0),(9,.d (.v (.int .i64 (-1)))),(10,.d (.v (.int .i64 (j:Int)))),(37,.d (.l (p.a.map enAQ))),(38,.d (.v (.int .i64 (p.a.length:Int)))),(39,.d (.v (.int .i64 (i:Int))))],[(2,.box 42 ((enSPQ p).map .d)),(3,.box 42 ((enSPQ q).map .d)),(35,.row i 3 1 (PL.map zI)),(8,.box 142 ((enAQ x).map .d))]⟩) (fun j=>j=0) (fun j=>1-j) 0 rfl ⟨rfl,rfl,rfl,rfl,rfl,rfl,rfl,rfl,rfl,rfl,rfl,trivial⟩ ⟨rfl,rfl,rfl,rfl,trivial⟩ ?_
   intro j hj
   subst hj
   dsimp only
   by_cases hi0:0<i
   ·refine wa ?_
    exact⟨i+1,h5,by omega,⟨rfl,rfl,rfl,by dsimp only;rw[hsucc];rfl,rfl,rfl,rfl,trivial⟩,⟨rfl,rfl,by dsimp only;rw[hpn,hPa];rfl,trivial⟩⟩
   ·obtain rfl:i=0:=by omega
    refine wa ?_
    exact⟨0+1,h5,by omega,⟨rfl,rfl,rfl,by dsimp only;rw[hsucc];rfl,rfl,rfl,rfl,trivial⟩,⟨rfl,rfl,by dsimp only;rw[hpn,hPa];rfl,trivial⟩⟩
  ·rw[truth_some hl]at htr
   have hne:=(leadQ_ne hl).1
   obtain⟨K,hK0,hK1,hKn⟩:∃ K:Int,(k<i→PL[k]?=some K∧0≤K∧L[k]?=some (p.b+K+1))∧(k<i→tidA p (i+1)=(S,L++[p.b+K+1]))∧(¬k<i→tidA p (i+1)=(S++[canA x c],L++[p.b+S.length+1])):=by
    by_cases hk:k<i
    ·have hck:∃ w d m,canL p.a[k].e.t=(w,d)::m:=by
      cases hx:canL p.a[k].e.t with
      | nil=>exact absurd hx (hlead (by rw[h0];simp))
      | cons t m=>exact⟨t.1,t.2,m,rfl⟩
     obtain⟨w,d,m,hck⟩:=hck
     obtain⟨q0,q1,q2⟩:=hopn k hk hkn w d m hck
     have q3:=hat k hk q0 w d m hck q1
     refine⟨q0,fun _=>⟨q3,by omega,q1⟩,fun _=>?_,fun h=>absurd hk h⟩
     rw[hsucc,tidS_old _ h0 (by omega),Int.toNat_natCast]
     dsimp only
     rw[q1]
     rfl
    ·refine⟨0,fun h=>absurd h hk,fun h=>absurd h hk,fun _=>?_⟩
     rw[hsucc,tidS_new _ h0 (by omega)]
   have hpf:∀ u,plcF p.b x u=u-p.b-1:=fun u=>by unfold plcF;rw[h0];rfl
   obtain⟨J,hJ⟩:∃ J:Nat→Int,∀j,J j=if k<j then K else-1:=⟨_,fun _=>rfl⟩
   have hJ0:J 0= -1:=by rw[hJ,if_neg (by omega)]
   clear hsucc hat hopn hlead
   refine wa ?_
   refine AC.loop (X:=Nat) (fun j=>⟨[(2,.p 2 0),(3,.p 3 0),(5,.r 35 i),(6,.d (.v (.int .i64 (S.length:Int)))),(7,.d (.v (.int .i64 (i:Int)))),(8,.p 8 0),(9,.d (.v (.int .i64 (J j)))),(10,.d (.v (.int .i64 (j:Int)))),(37,.d (.l (p.a.map enAQ))),(38,.d (.v (.int .i64 (p.a.length:Int)))),(39,.d (.v (.int .i64 (i:Int))))],[(2,.box 42 ((enSPQ p).map .d)),(3,.box 42 ((enSPQ q).map .d)),(35,.row i 3 1 (PL.map zI)),(8,.box 142 ((enAQ x).map .d))]⟩) (fun j=>j≤i) (fun j=>i-j) 0 (Nat.zero_le _) ⟨rfl,rfl,rfl,rfl,rfl,rfl,by dsimp only;rw[hJ0];rfl,rfl,rfl,rfl,rfl,trivial⟩ ⟨rfl,rfl,rfl,rfl,trivial⟩ ?_
   intro j hj
   dsimp only at hj ⊢
   by_cases h6:j<i
   ·have h7:j<p.a.length:=by omega
    have gy:=List.getElem?_eq_getElem h7
    have gs:=hsm j h7
    have g4:j<k→¬ SameP p.a[j] x:=fun h=>e4 j h
    have gk:k=j→SameP p.a[j] x:=fun h=>by subst h;exact e3
    generalize p.a[j]=y at gy gs g4 gk
    rcases Nat.lt_trichotomy k j with hkj | hkj | hkj
    ·have hJs:J (j+1)=K:=by rw[hJ,if_pos (by omega)]
     have hJj:J j=K:=by rw[hJ,if_pos hkj]
     obtain⟨c1',c2',c3'⟩:=hK0 (by omega)
     rw[hJj]
     clear gs hsm
     refine wa ?_
     exact⟨j+1,h6,by omega,⟨rfl,rfl,rfl,rfl,rfl,rfl,by dsimp only;rw[hJs];rfl,rfl,rfl,rfl,rfl,trivial⟩,⟨rfl,rfl,rfl,rfl,trivial⟩⟩
    ·have hJs:J (j+1)=K:=by rw[hJ,if_pos (by omega)]
     have hJj:J j= -1:=by rw[hJ,if_neg (by omega)]
     obtain⟨c1',c2',c3'⟩:=hK0 (by omega)
     have gs:=gs true (by simp[gk hkj])
     subst hkj
     rw[hJj]
     have hgz:(PL.map zI)[k]?=some (zI K):=by rw[List.getElem?_map,c1'];rfl
     clear hsm
     refine wa ?_
     exact⟨k+1,h6,by omega,⟨rfl,rfl,rfl,rfl,rfl,rfl,by dsimp only;rw[hJs];rfl,rfl,rfl,rfl,rfl,trivial⟩,⟨rfl,rfl,rfl,rfl,trivial⟩⟩
    ·have hJs:J (j+1)= -1:=by rw[hJ,if_neg (by omega)]
     have hJj:J j= -1:=by rw[hJ,if_neg (by omega)]
     have gs:=gs false (by simp[g4 hkj])
     rw[hJj]
     clear hsm
     refine wa ?_
     exact⟨j+1,h6,by omega,⟨rfl,rfl,rfl,rfl,rfl,rfl,by dsimp only;rw[hJs];rfl,rfl,rfl,rfl,rfl,trivial⟩,⟨rfl,rfl,rfl,rfl,trivial⟩⟩
   ·obtain rfl:j=i:=by omega
    have hJj:=hJ j
    generalize J j=Jj at hJj ⊢
    clear hJ hsm
    by_cases hk:k<j
    ·rw[if_pos hk]at hJj
     obtain⟨c1',c2',c3'⟩:=hK0 hk
     have hsu:=hK1 hk
     have hpn:=hpa _ (by rw[hsu])
     rw[hpf,show p.b+K+1-p.b-1=K by omega]at hpn
     subst hJj
     refine wa ?_
     exact⟨j+1,h5,by omega,⟨rfl,rfl,rfl,by dsimp only;rw[hsu];rfl,rfl,rfl,rfl,trivial⟩,⟨rfl,rfl,by dsimp only;rw[hpn,hPa];rfl,trivial⟩⟩
    ·rw[if_neg hk]at hJj
     have hsu:=hKn hk
     have hpn:=hpa _ (by rw[hsu])
     rw[hpf,show p.b+(S.length:Int)+1-p.b-1=S.length by omega]at hpn
     obtain⟨gq,_⟩:=hnw v c l h0 (by omega)
     rw[←hqa]at gq
     have hSl:S.length<q.a.length:=by
      rw[List.getElem?_eq_some_iff]at gq
      exact gq.1
     have hyo:(canA x c).op=x.op:=rfl
     have hym:=canA_means x hne
     have hcan:=hok.can v c l h0 hne
     have hby:=byF x hok.sm (by omega) hl (absR_ne hne)
     have hme:=meansZ (canA x c).e (byQ x.op c) x.e 12 6682 hcan.1 hok.sm (hcan.2.byQ x.op hne) (by omega) hym
     have hz:Fn Tryz.prog 95 [.d (.v (.int .i64 0))] [.g (enQ 0)]:=qInt 0 (by omega) (by omega)
     generalize canA x c=y at gq hyo hme hsu
     generalize byQ x.op c=bq at hby hme
     subst hJj
     refine wa ?_
     have hSy:(((S++[y]).length:Nat):Int)=S.length+1:=by simp
     exact⟨j+1,h5,by omega,⟨rfl,rfl,rfl,by dsimp only;rw[hsu];dsimp only;rw[hSy];rfl,rfl,rfl,rfl,trivial⟩,⟨rfl,rfl,by dsimp only;rw[hpn,hPa];rfl,trivial⟩⟩
 ·obtain rfl:i=p.a.length:=by omega
  have hSn:(tidA p p.a.length).1.length=q.a.length:=by rw[hqa]
  rw[hSn]
  have hPl:=hpL _ (Nat.le_refl p.a.length)
  clear hT hplT hOk hop hpA hpL hpAt hnew hsame hp hSn
  generalize plcA p p.a.length=PL at hPl hnow ⊢
  generalize (tidA p p.a.length).2=L at hnow hkept hren hwl hwn hqc
  refine AC.frzVar 5 rfl rfl ?_
  refine wa ?_
  refine AC.loop (X:=Nat×Nat) (fun x=>⟨[(2,.p 2 0),(3,.p 3 0),(5,.d (enZ PL)),(6,.d (.v (.int .i64 (q.a.length:Int)))),(11,.r 116 x.2),(118,.d (.l (p.c.map enCl))),(119,.d (.v (.int .i64 (p.c.length:Int)))),(120,.d (.v (.int .i64 (x.1:Int))))],[(2,.box 42 ((enSPQ p).map .d)),(3,.box 42 ((enSPQ q).map .d)),(116,.row x.2 55 1 (((p.c.take x.1).filterMap (renC p.b L)).map enCl))]⟩) (fun x=>x.1≤p.c.length) (fun x=>p.c.length-x.1) (0,0) (Nat.zero_le _) ⟨rfl,rfl,rfl,rfl,rfl,rfl,rfl,rfl,trivial⟩ ⟨rfl,rfl,rfl,trivial⟩ ?_
  intro ⟨i,m⟩ hi
  dsimp only at hi ⊢
  by_cases h5:i<p.c.length
  ·have hx:=List.getElem?_eq_getElem h5
   have hm:=List.getElem_mem h5
   have hxl:=(hclen _ hm).1
   have hkx:=hcl _ hm
   have hrx:=hren _ hm
   have hkp:=hkept _ hm
   have hfm:=fm_snoc (b:=p.b) (ts:=L) h5
   have hlen:((p.c.take i).filterMap (renC p.b L)).length≤i:=Nat.le_trans (List.length_filterMap_le _ _) (by rw[List.length_take];omega)
   generalize p.c[i]=x at hx hm hxl hkx hrx hkp hfm
   generalize (p.c.take i).filterMap (renC p.b L)=G at hfm hlen ⊢
   clear hclen hcl hren hkept hwl hwn
   have hlG:(G.map enCl).length=G.length:=List.length_map ..
   have hlx:(x.map zI).length=x.length:=List.length_map ..
   obtain⟨KB,hKB⟩:∃ KB:Nat→Bool,∀j,KB j=decide (¬big40∈(x.take j).map (renV p.b L)):=⟨_,fun _=>rfl⟩
   have hKB0:KB 0=true:=by rw[hKB];simp
   refine wa ?_
   refine AC.loop (X:=Nat×Nat) (fun y=>⟨[(2,.p 2 0),(3,.p 3 0),(5,.d (enZ PL)),(6,.d (.v (.int .i64 (q.a.length:Int)))),(11,.r 116 m),(14,.r 124 y.2),(15,.d (.v (.bool (KB y.1)))),(118,.d (.l (p.c.map enCl))),(119,.d (.v (.int .i64 (p.c.length:Int)))),(120,.d (.v (.int .i64 (i:Int)))),(125,.d (enZ x)),(126,.d (.v (.int .i64 (x.length:Int)))),(127,.d (.v (.int .i64 (y.1:Int))))],[(2,.box 42 ((enSPQ p).map .d)),(3,.box 42 ((enSPQ q).map .d)),(116,.row m 55 1 (G.map enCl)),(124,.row y.2 3 1 ((nexL p.b L (x.take y.1)).map zI))]⟩) (fun y=>y.1≤x.length) (fun y=>x.length-y.1) (0,0) (Nat.zero_le _) ⟨rfl,rfl,rfl,rfl,rfl,rfl,by dsimp only;rw[hKB0];rfl,rfl,rfl,rfl,rfl,rfl,rfl,trivial⟩ ⟨rfl,rfl,rfl,rfl,trivial⟩ ?_
   intro ⟨j,g⟩ hj
   dsimp only at hj ⊢
   by_cases h6:j<x.length
   ·have gx:=List.getElem?_eq_getElem h6
    have gm:=List.getElem_mem h6
    have gn:=hnow _ (hkx _ gm)
    have gr:=hrx _ gm
    have gst:=nexL_step (b:=p.b) (ts:=L) h6
    have gk:KB (j+1)=(KB j&&!decide (renV p.b L x[j]=big40)):=by
     rw[hKB,hKB,List.take_succ_eq_append_getElem h6,List.map_append]
     simp[eq_comm]
    have gnl:(nexL p.b L (x.take j)).length≤j:=by
     unfold nexL
     refine Nat.le_trans (List.length_filter_le _ _) ?_
     rw[List.length_map,List.length_take]
     omega
    generalize x[j]=l at gx gm gn gr gst gk
    generalize nexL p.b L (x.take j)=N at gst gnl ⊢
    have hlN:(N.map zI).length=N.length:=List.length_map ..
    have hNa:∀ v,(N++[v]).map zI=N.map zI++[zI v]:=fun v=>by rw[List.map_append];rfl
    generalize renV p.b L l=V at gn gr gst gk
    clear hnow hkx hrx hkp
    rcases gr with rfl | rfl | gr
    ·rw[if_pos (.inl rfl)]at gst
     have e:nowR big40=[.d (.v (.int .i64 0)),.d (.v (.bool true))]:=by unfold nowR;rw[if_pos rfl]
     rw[e]at gn
     rw[decide_eq_true rfl]at gk
     cases hB:KB j with
     | true=>
       rw[hB]at gk
       refine wa ?_
       exact⟨(j+1,g),h6,by dsimp only;omega,⟨rfl,rfl,rfl,rfl,rfl,rfl,by dsimp only;rw[gk];rfl,rfl,rfl,rfl,rfl,rfl,rfl,trivial⟩,⟨rfl,rfl,rfl,by dsimp only;rw[gst];rfl,trivial⟩⟩
     | false=>
       rw[hB]at gk
       refine wa ?_
       exact⟨(j+1,g),h6,by dsimp only;omega,⟨rfl,rfl,rfl,rfl,rfl,rfl,by dsimp only;rw[gk];rfl,rfl,rfl,rfl,rfl,rfl,rfl,trivial⟩,⟨rfl,rfl,rfl,by dsimp only;rw[gst];rfl,trivial⟩⟩
    ·rw[if_pos (.inr rfl)]at gst
     have e:nowR (-big40)=[.d (.v (.int .i64 0)),.d (.v (.bool false))]:=by unfold nowR;rw[if_neg (by decide),if_pos rfl]
     rw[e]at gn
     rw[decide_eq_false (by decide)]at gk
     cases hB:KB j with
     | true=>
       rw[hB]at gk
       refine wa ?_
       exact⟨(j+1,g),h6,by dsimp only;omega,⟨rfl,rfl,rfl,rfl,rfl,rfl,by dsimp only;rw[gk];rfl,rfl,rfl,rfl,rfl,rfl,rfl,trivial⟩,⟨rfl,rfl,rfl,by dsimp only;rw[gst];rfl,trivial⟩⟩
     | false=>
       rw[hB]at gk
       refine wa ?_
       exact⟨(j+1,g),h6,by dsimp only;omega,⟨rfl,rfl,rfl,rfl,rfl,rfl,by dsimp only;rw[gk];rfl,rfl,rfl,rfl,rfl,rfl,rfl,trivial⟩,⟨rfl,rfl,rfl,by dsimp only;rw[gst];rfl,trivial⟩⟩
    ·obtain⟨⟨gok,_⟩,gsz⟩:=gr
     have gV: -1040≤V∧V≤1040:=by unfold szI at gsz;split at gsz<;>omega
     have gV0:=gok.1
     rw[if_neg (by unfold big40;omega)]at gst
     rw[nowR_mid (by unfold big40;omega)]at gn
     rw[decide_eq_false (by unfold big40;omega)]at gk
     cases hB:KB j with
     | true=>
       rw[hB]at gk
       refine wa ?_
       exact⟨(j+1,g+1),h6,by dsimp only;omega,⟨rfl,rfl,rfl,rfl,rfl,rfl,by dsimp only;rw[gk];rfl,rfl,rfl,rfl,rfl,rfl,rfl,trivial⟩,⟨rfl,rfl,rfl,by dsimp only;rw[gst,hNa];rfl,trivial⟩⟩
     | false=>
       rw[hB]at gk
       refine wa ?_
       exact⟨(j+1,g+1),h6,by dsimp only;omega,⟨rfl,rfl,rfl,rfl,rfl,rfl,by dsimp only;rw[gk];rfl,rfl,rfl,rfl,rfl,rfl,rfl,trivial⟩,⟨rfl,rfl,rfl,by dsimp only;rw[gst,hNa];rfl,trivial⟩⟩
   ·rw[List.take_of_length_le (by omega)]
    have hKj:KB j=decide (¬big40∈x.map (renV p.b L)):=by rw[hKB,List.take_of_length_le (by omega)]
    have hNr:∀ v∈nexL p.b L x,-1040≤v∧v≤1040∧okLi v:=fun v hv=>by
     obtain⟨h2,h3⟩:=List.mem_filter.1 hv
     have h3:=of_decide_eq_true h3
     obtain⟨l,h4,rfl⟩:=List.mem_map.1 h2
     rcases hrx l h4 with h5 | h5 | h5
     ·exact absurd h5 h3.1
     ·exact absurd h5 h3.2
     ·have hsz:=h5.2
      unfold szI at hsz
      split at hsz<;>exact⟨by omega,by omega,h5.1.1⟩
    have hNl:(nexL p.b L x).length≤70:=by
     unfold nexL
     refine Nat.le_trans (List.length_filter_le _ _) ?_
     rw[List.length_map]
     omega
    generalize nexL p.b L x=N at hNr hNl hkp ⊢
    have hlN:(N.map zI).length=N.length:=List.length_map ..
    have hca:=canon13 N (fun v h=>(hNr v h).2.2) (by omega)
    obtain⟨B,hB⟩:∃ B,KB j=B:=⟨_,rfl⟩
    rw[hB]at hKj ⊢
    clear hKB hKB0 hnow hkx hrx hB
    refine AC.frzVar 14 rfl rfl ?_
    refine wa ?_
    refine AC.loop (X:=Nat) (fun u=>⟨[(2,.p 2 0),(3,.p 3 0),(5,.d (enZ PL)),(6,.d (.v (.int .i64 (q.a.length:Int)))),(11,.r 116 m),(14,.d (enZ N)),(15,.d (.v (.bool (B&&oppB N u)))),(118,.d (.l (p.c.map enCl))),(119,.d (.v (.int .i64 (p.c.length:Int)))),(120,.d (.v (.int .i64 (i:Int)))),(154,.d (enZ N)),(155,.d (.v (.int .i64 (N.length:Int)))),(156,.d (.v (.int .i64 (u:Int))))],[(2,.box 42 ((enSPQ p).map .d)),(3,.box 42 ((enSPQ q).map .d)),(116,.row m 55 1 (G.map enCl))]⟩) (fun u=>u≤N.length) (fun u=>N.length-u) 0 (Nat.zero_le _) ⟨rfl,rfl,rfl,rfl,rfl,rfl,by dsimp only;cases B<;>rfl,rfl,rfl,rfl,rfl,rfl,rfl,trivial⟩ ⟨rfl,rfl,rfl,trivial⟩ ?_
    intro u hu
    dsimp only at hu ⊢
    by_cases h7:u<N.length
    ·have gx:=List.getElem?_eq_getElem h7
     have gr:=hNr _ (List.getElem_mem h7)
     have gs:=oppB_succ h7
     generalize N[u]=w at gx gr gs
     have w1:IntKind.i64.wrap (0-w)= -w:=by rw[Int.zero_sub];exact IntWalk.i64_in _ (by omega)
     have gh:=has13 N (-w) (by omega)
     generalize decide (-w∈N)=H at gs gh
     clear hca hkp
     cases hO:(B&&oppB N u)with
     | true=>
       have hB1:B=true∧oppB N u=true:=by simpa using hO
       rw[hB1.2]at gs
       refine wa ?_
       ((try (first | intro K ms hms hK | intro K hK));(first | apply Chain.go | apply Chain.goD);exact rfl;exact rfl;exact Loc.negM rfl rfl w1)
       refine wa ?_
       cases H with
       | true=>
         refine wa ?_
         exact⟨u+1,h7,by omega,⟨rfl,rfl,rfl,rfl,rfl,rfl,by dsimp only;rw[gs,hB1.1];rfl,rfl,rfl,rfl,rfl,rfl,rfl,trivial⟩,⟨rfl,rfl,rfl,trivial⟩⟩
       | false=>
         refine wa ?_
         exact⟨u+1,h7,by omega,⟨rfl,rfl,rfl,rfl,rfl,rfl,by dsimp only;rw[gs,hB1.1];rfl,rfl,rfl,rfl,rfl,rfl,rfl,trivial⟩,⟨rfl,rfl,rfl,trivial⟩⟩
     | false=>
       have hB1:(B&&oppB N (u+1))=false:=by rw[gs,←Bool.and_assoc,hO];rfl
       refine wa ?_
       exact⟨u+1,h7,by omega,⟨rfl,rfl,rfl,rfl,rfl,rfl,by dsimp only;rw[hB1];rfl,rfl,rfl,rfl,rfl,rfl,rfl,trivial⟩,⟨rfl,rfl,rfl,trivial⟩⟩
    ·have hoa:=oppB_all (l:=N) (i:=u) (by omega)
     rcases hkp with ⟨r1,r2⟩ | ⟨r1,r2⟩
     ·have hO:(B&&oppB N u)=false:=by
       cases hb:(B&&oppB N u)with
       | false=>rfl
       | true=>
         have hB1:B=true∧oppB N u=true:=by simpa using hb
         rw[hKj]at hB1
         exact absurd ⟨of_decide_eq_true hB1.1,hoa.1 hB1.2⟩ r2
      rw[hO]
      rw[r1]at hfm
      refine wa ?_
      exact⟨(i+1,m),h5,by dsimp only;omega,⟨rfl,rfl,rfl,rfl,rfl,rfl,rfl,rfl,trivial⟩,⟨rfl,rfl,by dsimp only;rw[hfm];rfl,trivial⟩⟩
     ·have hO:(B&&oppB N u)=true:=by
       rw[hKj,decide_eq_true r2.1,hoa.2 r2.2]
       rfl
      rw[hO]
      rw[r1]at hfm
      dsimp only at hfm
      generalize canI N=Y at hca hfm
      have hGa:(G++[Y]).map enCl=G.map enCl++[enCl Y]:=by rw[List.map_append];rfl
      refine wa ?_
      exact⟨(i+1,m+1),h5,by dsimp only;omega,⟨rfl,rfl,rfl,rfl,rfl,rfl,rfl,rfl,trivial⟩,⟨rfl,rfl,by dsimp only;rw[hfm,hGa];rfl,trivial⟩⟩
  ·rw[List.take_of_length_le (by omega)]
   rw[←hqc]at hwl hwn ⊢
   clear hclen hcl hren hkept hnow hq
   refine AC.frzVar 11 rfl rfl ?_
   refine wa ?_
   refine AC.loop (X:=Nat) (fun i=>⟨[(3,.p 3 0),(11,.d (.l (q.c.map enCl))),(190,.d (.v (.int .i64 (q.c.length:Int)))),(191,.d (.v (.int .i64 (i:Int))))],[(3,.box 42 ((enSPQ q).map .d))]⟩) (fun i=>i≤q.c.length) (fun i=>q.c.length-i) 0 (Nat.zero_le _) ⟨rfl,rfl,rfl,rfl,trivial⟩ ⟨rfl,trivial⟩ ?_
   intro i hi
   dsimp only at hi ⊢
   by_cases h6:i<q.c.length
   ·have gx:=List.getElem?_eq_getElem h6
    have gl:=hwl _ (List.getElem_mem h6)
    generalize q.c[i]=w at gx gl
    have hsm:=same13 w w (by omega)
    rw[decide_eq_true rfl]at hsm
    refine wa ?_
    exact⟨i+1,h6,by omega,⟨rfl,rfl,rfl,rfl,trivial⟩,⟨rfl,trivial⟩⟩
   ·refine wa ?_
    exact⟨.d rfl (.inl rfl),trivial⟩
end Go.Proofs.YtbbpecfapohlaaaGreatDoor
