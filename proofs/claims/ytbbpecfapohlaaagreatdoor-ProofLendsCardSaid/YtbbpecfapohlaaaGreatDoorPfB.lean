import Derived.Test.YtbbpecfapohlaaaGreatDoorFkB
import Derived.Test.YtbbpecfapohlaaaGreatDoorReB
import Derived.Test.YtbbpecfapohlaaaGreatDoorStS
set_option maxRecDepth 100000
set_option maxHeartbeats 8000000
namespace Go.Proofs.YtbbpecfapohlaaaGreatDoor
open Go.RowKit
attribute [local irreducible] AC Do St
structure StO(s:Stp):Prop where
 rule:inR s.rule
 idx:inR s.idx
 cl:∀ l∈s.cl,inR l
 pr:∀ j∈s.pr,inR j
 cn:s.cl.length≤40
 pn:s.pr.length≤40
 tn:s.tm.length≤40
 bd:∀ t∈s.tm,Bd 256 t
theorem StO.k{s:Stp}(h:StO s):SmK 256 s:=⟨h.bd,by have:=h.tn;omega,by have:=h.cn;omega,by have:=h.pn;omega⟩
def useP(s:Stp):Prop:=(s.rule=1∧s.pr=[]∧s.tm=[])∨(s.rule=2∧s.idx=0∧s.pr=[])∨(s.rule=3∧s.idx=0∧s.tm=[])
def forP(p:SP)(s:Stp):Prop:=(∀l∈s.cl,okLi l)∧canI s.cl=s.cl∧(∀l∈s.cl,szI l≤p.b+p.a.length)∧useP s
theorem forP.can{p:SP}{s:Stp}(h:forP p s){n:Nat}(hn:s.cl.length≤n):CanK n s.cl:=⟨h.1,h.2.1,hn⟩
noncomputable def oppN (p:SP)(c:List Int):Nat→Option (List At)
 | 0=>some []
 | i+1=>match oppN p c i,c[i]? with
   | some L,some l=>match oppP p l with
     | some a=>some (L++[a])
     | none=>none
   | some L,none=>some L
   | none,_=>none
theorem oppN_yes{p:SP}{c:List Int}{i:Nat}{L:List At}{a:At}(h:i<c.length)(h1:oppN p c i=some L)(h2:oppP p c[i]=some a):oppN p c (i+1)=some (L++[a]):=by
 rw[oppN,h1,List.getElem?_eq_getElem h];dsimp only;rw[h2]
theorem oppN_no{p:SP}{c:List Int}{i:Nat}{L:List At}(h:i<c.length)(h1:oppN p c i=some L)(h2:oppP p c[i]=none):oppN p c (i+1)=none:=by
 rw[oppN,h1,List.getElem?_eq_getElem h];dsimp only;rw[h2]
theorem oppN_up{p:SP}{c:List Int}{i:Nat}(h:oppN p c i=none):∀ n,i≤n→oppN p c n=none
 | 0,hn=>by rw[show i=0 by omega]at h;exact h
 | n+1,hn=>by
   by_cases e:i=n+1
   ·rw[←e];exact h
   ·rw[oppN,oppN_up h n (by omega)]
theorem oppN_mem{p:SP}{c:List Int}:∀ {i:Nat} {L:List At},oppN p c i=some L→L.length≤i∧∀ a∈L,∃l∈c,oppP p l=some a
 | 0,L,h=>by
   rw[oppN]at h;obtain rfl:=Option.some.inj h;exact⟨Nat.le_refl _,fun a ha=>by cases ha⟩
 | i+1,L,h=>by
   cases h1:oppN p c i with
   | none=>rw[oppN,h1]at h;cases h
   | some M=>
     obtain⟨h3,h4⟩:=oppN_mem h1;cases h2:c[i]? with
     | none=>
       rw[oppN,h1,h2]at h;obtain rfl:=Option.some.inj h;exact⟨by omega,h4⟩
     | some l=>
       cases h5:oppP p l with
       | none=>rw[oppN,h1,h2]at h;dsimp only at h;rw[h5]at h;cases h
       | some a=>
         rw[oppN,h1,h2]at h;dsimp only at h;rw[h5]at h;obtain rfl:=Option.some.inj h;refine⟨by rw[List.length_append];show _+1≤_;omega,fun b hb=>?_⟩;rcases List.mem_append.1 hb with hb | hb
         ·exact h4 b hb
         ·exact⟨l,List.mem_of_getElem? h2,by rw[h5,List.mem_singleton.1 hb]⟩
def clA(l:List Stp)(j:Int):List Int:=match l[j.toNat]? with
 | some s=>s.cl
 | none=>[]
def chaM:List (List Int)→Option (List Int)
 | []=>none
 | c::cs=>chaI c cs
def givP(p:SP)(B:List Stp)(s:Stp):Prop:=
 (s.rule=1∧0≤s.idx∧p.c[s.idx.toNat]?=some s.cl)∨
 (s.rule=2∧∃ L,oppN p s.cl s.cl.length=some L∧fkI L s.tm=0∧rfuQ L s.tm)∨
 (s.rule=3∧2≤s.pr.length∧(∀j∈s.pr,0≤j∧j<B.length)∧chaM (s.pr.map (clA B))=some s.cl)
noncomputable def wroP (p:SP)(B:List Stp)(s:Stp):Int:=by
 classical
 exact if forP p s then if givP p B s then 0 else 6 else 4
theorem wro_form{p:SP}{B:List Stp}{s:Stp}(h:¬ forP p s):wroP p B s=4:=by unfold wroP;rw[if_neg h]
theorem wro_rule{p:SP}{B:List Stp}{s:Stp}(h:forP p s)(h1:¬ givP p B s):wroP p B s=6:=by unfold wroP;rw[if_pos h,if_neg h1]
theorem wro_ok{p:SP}{B:List Stp}{s:Stp}(h:forP p s)(h1:givP p B s):wroP p B s=0:=by unfold wroP;rw[if_pos h,if_pos h1]
theorem wro_zero{p:SP}{B:List Stp}{s:Stp}(h:wroP p B s=0):forP p s∧givP p B s:=by
 by_cases h1:forP p s
 ·by_cases h2:givP p B s
  ·exact⟨h1,h2⟩
  ·rw[wro_rule h1 h2]at h;omega
 ·rw[wro_form h1]at h;omega
def FolR(p:SP)(l:List Stp)(k e:Int):Prop:=
 (chkP p≠0∧k=0∧e=chkP p)∨
 (chkP p=0∧k=0∧e=0∧∀ i (h:i<l.length),wroP p (l.take i) l[i]=0)∨
 (chkP p=0∧∃ i,∃h:i<l.length,(∀j (hj:j<i),wroP p (l.take j) (l[j]'(by omega))=0)∧wroP p (l.take i) l[i]≠0∧k=i∧e=wroP p (l.take i) l[i])
theorem fol_first(p:SP)(l:List Stp):∀ n,n≤l.length→(∀i (h:i<l.length),i<n→wroP p (l.take i) l[i]=0)∨∃ i,∃h:i<l.length,(∀j (hj:j<i),wroP p (l.take j) (l[j]'(by omega))=0)∧wroP p (l.take i) l[i]≠0
 | 0,_=> .inl fun i _ h=>absurd h (by omega)
 | n+1,hn=>by
   rcases fol_first p l n (by omega)with h | h
   ·by_cases e:wroP p (l.take n) (l[n]'(by omega))=0
    ·refine .inl fun i hi hin=>?_;by_cases e2:i=n
     ·subst e2;exact e
     ·exact h i hi (by omega)
    ·exact .inr ⟨n,by omega,fun j hj=>h j (by omega) hj,e⟩
   ·exact .inr h
theorem folR_ex(p:SP)(l:List Stp):∃ k e,FolR p l k e:=by
 by_cases h:chkP p=0
 ·rcases fol_first p l l.length (Nat.le_refl _)with h1 | ⟨i,hi,h1,h2⟩
  ·exact⟨0,0,.inr (.inl ⟨h,rfl,rfl,fun i hi=>h1 i hi hi⟩)⟩
  ·exact⟨i,_,.inr (.inr ⟨h,i,hi,h1,h2,rfl,rfl⟩)⟩
 ·exact⟨0,_,.inl ⟨h,rfl,rfl⟩⟩
def CheR(l:List Stp)(k e m f:Int):Prop:=
 (e≠0∧m=k∧f=e)∨(e=0∧(l=[]∨∃ s,l[l.length-1]?=some s∧s.cl≠[])∧m=l.length∧f=7)∨(e=0∧(∃s,l[l.length-1]?=some s∧s.cl=[])∧m=0∧f=0)
theorem cheR_ex(l:List Stp)(k e:Int):∃ m f,CheR l k e m f:=by
 by_cases h:e=0
 ·cases h1:l[l.length-1]? with
  | none=>
    have:l=[]:=by
     rw[List.getElem?_eq_none_iff]at h1;exact List.length_eq_zero_iff.1 (by omega)
    exact⟨l.length,7,.inr (.inl ⟨h,.inl this,rfl,rfl⟩)⟩
  | some s=>
    by_cases h2:s.cl=[]
    ·exact⟨0,0,.inr (.inr ⟨h,⟨s,h1,h2⟩,rfl,rfl⟩)⟩
    ·exact⟨l.length,7,.inr (.inl ⟨h,.inr ⟨s,h1,h2⟩,rfl,rfl⟩)⟩
 ·exact⟨k,e,.inl ⟨h,rfl,rfl⟩⟩
theorem ok_1:okOp 1:=⟨by decide,by decide⟩
theorem ok_2:okOp 2:=⟨by decide,by decide⟩
theorem oppP_op{p:SP}(ho:∀ a∈p.a,okOp a.op){l:Int}{a:At}(h:oppP p l=some a):okOp a.op:=by
 unfold oppP at h;split at h
 ·cases h
 ·split at h
  ·cases h
  ·rename_i x e;have:=ho x (List.mem_of_getElem? e);split at h
   ·obtain rfl:=Option.some.inj h;exact this
   ·split at h
    ·obtain rfl:=Option.some.inj h;exact ok_2
    ·split at h
     ·obtain rfl:=Option.some.inj h;exact ok_1
     ·cases h
theorem oppP_fk{p:SP}(ha:∀ a∈p.a,OkAt a∧okOp a.op){l:Int}{a:At}(h:oppP p l=some a):FkA a:=by
 have hop:=oppP_op (fun a h=>(ha a h).2) h;have hs:∀ x,OkAt x→∀ op,okOp op→FkA ⟨scaleE (-1) x.e,op⟩:=fun x hx op ho=>by
  have h1:=tb_bd hx.sm.t;have h2:=hx.sm.n;have h3:=tb_mul (-1) x.e.t;have h4:bz (-1:Rat)≤1:=bz_le ⟨by decide,by decide⟩;have h5:=canL_tb (x.e.t.map (mulT (-1)));have h6:=bz_mul (-1) x.e.c;have h7:=bz_le hx.sm.c;have h8:x.e.t.length*6683≤12*6683:=Nat.mul_le_mul_right _ h2;have h9:x.e.t.length*bz (-1)≤12*1:=Nat.mul_le_mul h2 h4;have h10:=(canL_spec (x.e.t.map (mulT (-1)))).2.2;rw[List.length_map]at h10;exact⟨by show tb (canL _)≤_;omega,by show (canL _).length≤_;omega,by show bz (-1*x.e.c)≤_;omega,ho⟩
 unfold oppP at h;split at h
 ·cases h
 ·split at h
  ·cases h
  ·rename_i x e;obtain⟨h1,h2⟩:=ha x (List.mem_of_getElem? e);split at h
   ·obtain rfl:=Option.some.inj h;have h4:=tb_bd h1.sm.t;have h5:=h1.sm.n;have h6:x.e.t.length*6683≤12*6683:=Nat.mul_le_mul_right _ h5;exact⟨by omega,h5,by have:=bz_le h1.sm.c;omega,h2⟩
   ·split at h
    ·obtain rfl:=Option.some.inj h;exact hs x h1 _ ok_2
    ·split at h
     ·obtain rfl:=Option.some.inj h;exact hs x h1 _ ok_1
     ·cases h
theorem chaI_can{cs:List (List Int)}:∀ {m:Nat} {c x:List Int},CanK m c→(∀y∈cs,CanK 100 y)→chaI c cs=some x→CanK (m+100*cs.length) x:=by
 induction cs with
 | nil=>
   intro m c x hc _ h;rw[chaI]at h;obtain rfl:=Option.some.inj h;exact hc
 | cons y cs ih=>
   intro m c x hc hcs h;rw[chaI]at h;split at h
   ·rename_i z o e;have h1:=ih (resI_can hc (hcs y (by simp)) e) (fun w hw=>hcs w (List.mem_cons_of_mem _ hw)) h;exact⟨h1.ok,h1.can,by have:=h1.n;rw[List.length_cons];omega⟩
   ·cases h
theorem chaI_len{c x:List Int}{cs:List (List Int)}(h:∀ y∈c::cs,CanK 100 y)(e:chaI c cs=some x):x.length≤100*(cs.length+1):=by
 have:=(chaI_can (h c (by simp)) (fun y hy=>h y (List.mem_cons_of_mem _ hy)) e).n;omega
theorem resI_on{a b x:List Int}{on:Int}(ha:∀ l∈a,okLi l)(h:resI a b=some (x,on)):on≠0:=by
 unfold resI at h;split at h
 ·rename_i o e;simp only[Option.some.injEq,Prod.mk.injEq]at h;obtain⟨rfl,rfl⟩:=h;have:o∈cloI a b:=by rw[e];exact List.mem_singleton.2 rfl
  exact(ha o (List.mem_filter.1 this).1).1
 ·cases h
end Go.Proofs.YtbbpecfapohlaaaGreatDoor
namespace Go.Proofs.YtbbpecfapohlaaaGreatDoor
open Go.RowKit
attribute [local irreducible] AC Do St
theorem equalZ(a b:List Int)(hl:a.length≤1000000000):Fn Tryz.prog 119 [.d (enZ a),.d (enZ b)] [.d (.v (.bool (decide (a=b))))]:=by
 have hla:(a.map zI).length=a.length:=List.length_map ..;have hlb:(b.map zI).length=b.length:=List.length_map ..;by_cases h1:a.length=b.length
 ·obtain⟨R,hR⟩:∃ R,decide (a=b)=R:=⟨_,rfl⟩
  have hyes:a=b→R=true:=fun h=>by rw[←hR,decide_eq_true h]
  have hno:¬ a=b→R=false:=fun h=>by rw[←hR,decide_eq_false h]
  rw[hR];clear hR;refine Fn.of Tryz.func119 rfl (by kernel_rfl) Tryz.ntmps119 Tryz.results119 rfl fun w0 S0=>?_;refine wa ?_;refine AC.loop (X:=Nat) (fun i=>⟨[(0,.d (enZ a)),(1,.d (enZ b)),(12,.d (.v (.int .i64 (a.length:Int)))),(13,.d (.v (.int .i64 (i:Int))))],[]⟩) (fun i=>i≤a.length∧a.take i=b.take i) (fun i=>a.length-i) 0 ⟨Nat.zero_le _,rfl⟩ ⟨rfl,rfl,rfl,rfl,trivial⟩ trivial ?_;intro i ⟨hi,he⟩;dsimp only at hi he ⊢;by_cases h6:i<a.length
  ·have h7:i<b.length:=by omega
   have gx:=List.getElem?_eq_getElem h6;have gy:=List.getElem?_eq_getElem h7;have ge:a[i]=b[i]→a.take (i+1)=b.take (i+1):=fun h=>by rw[List.take_succ_eq_append_getElem h6,List.take_succ_eq_append_getElem h7,he,h]
   have gn:¬ a[i]=b[i]→¬ a=b:=fun h h2=>h (by subst h2;rfl);generalize a[i]=u at gx ge gn;generalize b[i]=v at gy ge gn;by_cases k3:u=v
   ·refine wa ?_;exact⟨i+1,⟨h6,ge k3⟩,by omega,⟨rfl,rfl,rfl,rfl,trivial⟩,trivial⟩
   ·rw[hno (gn k3)];refine wa ?_;exact⟨.d rfl (.inl rfl),trivial⟩
  ·rw[List.take_of_length_le (by omega),List.take_of_length_le (by omega)]at he;rw[hyes he];refine wa ?_;exact⟨.d rfl (.inl rfl),trivial⟩
 ·rw[decide_eq_false fun h=>h1 (by rw[h])];refine Fn.of Tryz.func119 rfl (by kernel_rfl) Tryz.ntmps119 Tryz.results119 rfl fun w0 S0=>?_;refine wa ?_;exact⟨.d rfl (.inl rfl),trivial⟩
theorem prFormedF(p:SP)(s:Stp)(hp:OkSP p)(hb:0≤p.b)(hb1:p.b≤1000)(hs:StO s)(R:Bool)(hR:R=true↔forP p s):Fn Tryz.prog 62 [.g (enSP p),.g (enS s)] [.d (.v (.bool R))]:=by
 have han:=hp.an;have hcn:=hs.cn;have hpn:=hs.pn;have htn:=hs.tn;have hla:(p.a.map enA).length=p.a.length:=List.length_map ..;have hcan:=canonC s.cl hs.cl (by omega);have hno:¬ forP p s→R=false:=fun h=>by
  cases e:R with
  | false=>rfl
  | true=>exact absurd (hR.1 e) h
 by_cases h1:∀ l∈s.cl,okLi l
 ·rw[canC_yes h1]at hcan;have heq:=equalZ (canI s.cl) s.cl (by have:=canI_len s.cl;omega);by_cases h2:canI s.cl=s.cl
  ·rw[decide_eq_true h2]at heq;rw[h2]at hcan heq;have hRu:(∀l∈s.cl,szI l≤p.b+p.a.length)→(R=true↔useP s):=fun h=>hR.trans ⟨fun h=>h.2.2.2,fun h3=>⟨h1,h2,h,h3⟩⟩;have hRl:∀ l∈s.cl,¬szI l≤p.b+p.a.length→R=false:=fun l hl h=>hno fun h3=>h (h3.2.2.1 l hl);clear hR hno;have hin:=hs.rule;refine Fn.of Tryz.func62 rfl (by kernel_rfl) Tryz.ntmps62 Tryz.results62 rfl fun w0 S0=>?_;refine wa ?_;refine AC.loop (X:=Nat) (fun i=>⟨[(2,.p 2 0),(3,.p 3 0),(24,.d (enZ s.cl)),(25,.d (.v (.int .i64 (s.cl.length:Int)))),(26,.d (.v (.int .i64 (i:Int))))],[(2,.box 29 ((enSP p).map .d)),(3,.box 57 ((enS s).map .d))]⟩) (fun i=>i≤s.cl.length∧∀ l∈s.cl.take i,szI l≤p.b+p.a.length) (fun i=>s.cl.length-i) 0 ⟨Nat.zero_le _,by simp⟩ ⟨rfl,rfl,rfl,rfl,rfl,trivial⟩ ⟨rfl,rfl,trivial⟩ ?_;intro i ⟨hi,hz⟩;dsimp only at hi hz ⊢;by_cases h3:i<s.cl.length
   ·have gl:=List.getElem?_eq_getElem h3;have hok:=h1 _ (List.getElem_mem h3);have hal:=fun h=>all_take (P:=fun l=>szI l≤p.b+p.a.length) h3 hz h;have hbad:=hRl _ (List.getElem_mem h3);generalize s.cl[i]=l at gl hok hal hbad;have m1:=max_sz hok;have w1:IntKind.i64.wrap (0-l)= -l:=by rw[Int.zero_sub];exact IntWalk.i64_in _ (by have:=hok.2;omega)
    obtain⟨z1,z2⟩:=szI_ok hok;clear hRu hRl hz;generalize szI l=z at m1 z1 z2 hal hbad;by_cases h4:z≤p.b+p.a.length
    ·have hn:=hal h4;clear hbad hal;refine wa ?_;((try (first | intro K ms hms hK | intro K hK));(first | apply Chain.go | apply Chain.goD);exact rfl;exact rfl;exact Loc.negM rfl rfl w1);refine wa ?_;((try (first | intro K ms hms hK | intro K hK));(first | apply Chain.go | apply Chain.goD);exact rfl;exact rfl;exact Loc.maxZ rfl rfl rfl m1);refine wa ?_;exact⟨i+1,⟨h3,hn⟩,by omega,⟨rfl,rfl,rfl,rfl,rfl,trivial⟩,⟨rfl,rfl,trivial⟩⟩
    ·obtain rfl:=hbad h4;clear hal;refine wa ?_;((try (first | intro K ms hms hK | intro K hK));(first | apply Chain.go | apply Chain.goD);exact rfl;exact rfl;exact Loc.negM rfl rfl w1);refine wa ?_;((try (first | intro K ms hms hK | intro K hK));(first | apply Chain.go | apply Chain.goD);exact rfl;exact rfl;exact Loc.maxZ rfl rfl rfl m1);refine wa ?_;exact⟨.d rfl (.inl rfl),trivial⟩
   ·rw[List.take_of_length_le (by omega)]at hz;have hRv:=hRu hz;clear hRu hRl hz hcan heq;have hu:useP s↔(s.rule=1∧s.pr.length=0∧s.tm.length=0)∨(s.rule=2∧s.idx=0∧s.pr.length=0)∨(s.rule=3∧s.idx=0∧s.tm.length=0):=by
     unfold useP;simp only[List.length_eq_zero_iff]
    rw[hu]at hRv;clear hu;have hlp:(s.pr.map zI).length=s.pr.length:=List.length_map ..;have hlt:(s.tm.map enR).length=s.tm.length:=List.length_map ..;have hyes:((s.rule=1∧s.pr.length=0∧s.tm.length=0)∨(s.rule=2∧s.idx=0∧s.pr.length=0)∨(s.rule=3∧s.idx=0∧s.tm.length=0))→R=true:=hRv.2;have hnot:¬ ((s.rule=1∧s.pr.length=0∧s.tm.length=0)∨(s.rule=2∧s.idx=0∧s.pr.length=0)∨(s.rule=3∧s.idx=0∧s.tm.length=0))→R=false:=fun h=>by
     cases R with
     | false=>rfl
     | true=>exact absurd (hRv.1 rfl) h
    clear hRv;by_cases r1:s.rule=1
    ·by_cases k1:s.pr.length=0
     ·by_cases k2:s.tm.length=0
      ·obtain rfl:=hyes (.inl ⟨r1,k1,k2⟩);clear hyes hnot;refine wa ?_;exact⟨.d rfl (.inl rfl),trivial⟩
      ·obtain rfl:=hnot (by omega);clear hyes hnot;refine wa ?_;exact⟨.d rfl (.inl rfl),trivial⟩
     ·obtain rfl:=hnot (by omega);clear hyes hnot;refine wa ?_;exact⟨.d rfl (.inl rfl),trivial⟩
    by_cases r2:s.rule=2
    ·by_cases k1:s.idx=0
     ·by_cases k2:s.pr.length=0
      ·obtain rfl:=hyes (.inr (.inl ⟨r2,k1,k2⟩));clear hyes hnot;refine wa ?_;exact⟨.d rfl (.inl rfl),trivial⟩
      ·obtain rfl:=hnot (by omega);clear hyes hnot;refine wa ?_;exact⟨.d rfl (.inl rfl),trivial⟩
     ·obtain rfl:=hnot (by omega);clear hyes hnot;refine wa ?_;exact⟨.d rfl (.inl rfl),trivial⟩
    by_cases r3:s.rule=3
    ·by_cases k1:s.idx=0
     ·by_cases k2:s.tm.length=0
      ·obtain rfl:=hyes (.inr (.inr ⟨r3,k1,k2⟩));clear hyes hnot;refine wa ?_;exact⟨.d rfl (.inl rfl),trivial⟩
      ·obtain rfl:=hnot (by omega);clear hyes hnot;refine wa ?_;exact⟨.d rfl (.inl rfl),trivial⟩
     ·obtain rfl:=hnot (by omega);clear hyes hnot;refine wa ?_;exact⟨.d rfl (.inl rfl),trivial⟩
    ·obtain rfl:=hnot (by omega);clear hyes hnot;refine wa ?_;exact⟨.d rfl (.inl rfl),trivial⟩
  ·rw[decide_eq_false h2]at heq;obtain rfl:=hno fun h=>h2 h.2.1;clear hR;refine Fn.of Tryz.func62 rfl (by kernel_rfl) Tryz.ntmps62 Tryz.results62 rfl fun w0 S0=>?_;refine wa ?_;exact⟨.d rfl (.inl rfl),trivial⟩
 ·rw[canC_no h1]at hcan;obtain rfl:=hno fun h=>h1 h.1;clear hR;refine Fn.of Tryz.func62 rfl (by kernel_rfl) Tryz.ntmps62 Tryz.results62 rfl fun w0 S0=>?_;refine wa ?_;exact⟨.d rfl (.inl rfl),trivial⟩
end Go.Proofs.YtbbpecfapohlaaaGreatDoor
