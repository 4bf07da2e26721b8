import Derived.Test.YtbbpecfapohlaaaGreatDoorLst
namespace Go.Proofs.YtbbpecfapohlaaaGreatDoor
open Go.RowKit
attribute [local irreducible] AC Do St
def big40:Int:=1099511627776
noncomputable def tidS (b k:Int)(i:Nat)(a:At)(s:List At×List Int):List At×List Int:=
 match canL a.e.t with
 | []=>(s.1,s.2++[if sayB a.op a.e.c=true then big40 else-big40])
 | (_,c)::_=>if k<i then(s.1,s.2++[s.2[k.toNat]?.getD 0])else(s.1++[canA a c],s.2++[b+s.1.length+1])
noncomputable def tidA (p:SP):Nat→List At×List Int
 | 0=>([],[])
 | i+1=>match p.a[i]? with
   | none=>tidA p i
   | some a=>tidS p.b (plT p.a a) i a (tidA p i)
theorem tidA_succ(p:SP){i:Nat}(h:i<p.a.length):tidA p (i+1)=tidS p.b (plT p.a p.a[i]) i p.a[i] (tidA p i):=by
 show (match p.a[i]? with | none=>tidA p i | some a=>tidS p.b (plT p.a a) i a (tidA p i))=_;rw[List.getElem?_eq_getElem h]
def renV(b:Int)(ts:List Int)(l:Int):Int:=
 if l<0 then-(if b<szI l then ts[(szI l-b-1).toNat]?.getD 0 else szI l)else(if b<szI l then ts[(szI l-b-1).toNat]?.getD 0 else szI l)
def altB:List Int→Bool
 | a::b::l=>decide (b= -a)||altB (b::l)
 | _=>false
def renL(b:Int)(ts c:List Int):List Int:=(c.map (renV b ts)).filter fun v=>decide (v≠ -big40)
def renC(b:Int)(ts c:List Int):Option (List Int):=
 if big40∈c.map (renV b ts)then none else if altB (canI (renL b ts c))=true then none else some (canI (renL b ts c))
noncomputable def tidP (p:SP):SP:=⟨p.r,p.b,(tidA p p.a.length).1,p.c.filterMap (renC p.b (tidA p p.a.length).2)⟩
structure Loose(p:SP):Prop where
 g:¬ greatP p
 r:0≤p.r
 b:0≤p.b
 a:∀ a∈p.a,okOp a.op∧insA p.r a
 c:∀ c∈p.c,∀l∈c,knoL p.b p.a.length l
noncomputable def looP (p:SP):Int:=by
 classical
 exact if greatP p then 2 else if Loose p then 0 else 4
theorem same_can{a b:At}{v w:Int}{c d:Rat}{l m:List Tm}(ha:canL a.e.t=(v,c)::l)(hb:canL b.e.t=(w,d)::m):SameP a b↔canA a c=canA b d:=by
 obtain⟨la,ca⟩:=can_lead ha;obtain⟨lb,cb⟩:=can_lead hb;rw[same_open la lb];constructor
 ·rintro ⟨h1,h2,h3⟩;have hu:usedI a.e=usedI b.e:=SameP.used ((same_open la lb).2 ⟨h1,h2,h3⟩) la lb;have e1:(canA a c).e.t=(canA b d).e.t:=by
   rw[canA_used a ca,canA_used b cb,hu];exact List.map_congr_left fun u _=>by rw[h3 u]
  have e2:(canA a c).e.c=(canA b d).e.c:=by rw[canA_c,canA_c,h2]
  have e3:(canA a c).op=(canA b d).op:=h1;generalize canA a c=x at e1 e2 e3;generalize canA b d=y at e1 e2 e3;obtain⟨⟨t,k⟩,o⟩:=x;obtain⟨⟨t',k'⟩,o'⟩:=y;dsimp only at e1 e2 e3;rw[e1,e2,e3]
 ·intro h;have h0:(canA a c).op=(canA b d).op:=by rw[h]
  refine⟨h0,?_,fun u=>?_⟩
  ·rw[←canA_c a c,←canA_c b d,h]
  ·rw[←canA_coef a ca,←canA_coef b cb,h]
theorem canP_can{a:At}(ho:okOp a.op){v:Int}{c:Rat}{l:List Tm}(h:canL a.e.t=(v,c)::l):canP (canA a c):=by
 obtain⟨_,hc⟩:=can_lead h;obtain⟨e1,e2,e3⟩:=canA_again a hc h;exact⟨ho,v,_,_,by rw[e2,e1],e3⟩
theorem canP_uniq{a b:At}(ha:canP a)(hb:canP b)(h:SameP a b):a=b:=by
 obtain⟨_,v,c,l,h1,e1⟩:=ha;obtain⟨_,w,d,m,h2,e2⟩:=hb;rw[←e1,←e2];exact(same_can h1 h2).1 h
theorem canP_in{r:Int}{a:At}(h:insA r a){v:Int}{c:Rat}{l:List Tm}(h0:canL a.e.t=(v,c)::l):insA r (canA a c):=fun t ht=>by
 obtain⟨_,hc⟩:=can_lead h0;rw[canA_t a hc]at ht;obtain⟨x,hx,rfl⟩:=List.mem_map.1 ht;obtain⟨u,hu,h2⟩:=can_var hx;have:=h u hu;show 0≤x.1∧x.1<r;rw[←h2];exact this
theorem fsT_le{ls:List At}{k:Lit}{i:Nat}(h:i<ls.length)(h1:kyT ls[i]=some k):fsT ls k≤i:=by
 classical
 unfold fsT;refine Nat.le_of_not_lt fun h2=>?_;have:=List.not_of_lt_findIdx h2;simp[h1]at this
theorem fsT_key{ls:List At}{k:Lit}(h:fsT ls k<ls.length):kyT ls[fsT ls k]=some k:=by
 classical
 have h1:(fun a=>decide (kyT a=some k)) (ls[fsT ls k])=true:=by
  unfold fsT at h ⊢;exact List.findIdx_getElem (w:=h)
 exact of_decide_eq_true h1
theorem plT_at{p:SP}(hp:OkSP p)(hl:∀ a∈p.a,okOp a.op){i:Nat}(hi:i<p.a.length):∃ k:Nat,plT p.a p.a[i]=k∧k≤i∧∃ hk:k<p.a.length,SameP p.a[k] p.a[i]∧∀ j (hj:j<k),¬SameP (p.a[j]'(by omega)) p.a[i]:=by
 have ho:=hl _ (List.getElem_mem hi);have hky:=kyT_yes ho;have hle:=fsT_le hi hky;have hk:fsT p.a (kLit (keyV p.a[i]))<p.a.length:=by omega
 refine⟨fsT p.a (kLit (keyV p.a[i])),?_,hle,hk,?_,fun j hj hs=>?_⟩
 ·unfold plT;rw[hky]
 ·refine(same_kyT (hp.a _ (List.getElem_mem hk)) (hp.a _ (List.getElem_mem hi)) (hl _ (List.getElem_mem hk)) ho).2 ?_;rw[hky];exact fsT_key hk
 ·have hj':j<p.a.length:=by omega
  have:=(same_kyT (hp.a _ (List.getElem_mem hj')) (hp.a _ (List.getElem_mem hi)) (hl _ (List.getElem_mem hj')) ho).1 hs;rw[hky]at this;exact fsT_before rfl hj hj' this
theorem SameP.lead_iff{a b:At}(h:SameP a b):canL a.e.t=[]↔canL b.e.t=[]:=by
 have h1:=h.1;rcases lead_can a.e with ⟨la,ea⟩ | ⟨v,c,l,la,ea⟩<;>rcases lead_can b.e with ⟨lb,eb⟩ | ⟨w,d,m,lb,eb⟩<;>rw[ea,eb]
 ·rw[truth_some lb]at h1;rcases truth_shut la with h2 | h2<;>omega
 ·rw[truth_some la]at h1;rcases truth_shut lb with h2 | h2<;>omega
 ·simp
structure TI(p:SP)(i:Nat)(s:List At×List Int):Prop where
 n:s.2.length=i
 m:s.1.length≤i
 shut:∀ j (_:j<i) (h':j<p.a.length),canL p.a[j].e.t=[]→s.2[j]?=some (if sayB p.a[j].op p.a[j].e.c=true then big40 else-big40)
 opn:∀ j (_:j<i) (h':j<p.a.length) v c l,canL p.a[j].e.t=(v,c)::l→∃ k:Nat,s.2[j]?=some (p.b+k+1)∧s.1[k]?=some (canA p.a[j] c)
 src:∀ x∈s.1,∃j,j<i∧∃ h':j<p.a.length,∃v c l,canL p.a[j].e.t=(v,c)::l∧x=canA p.a[j] c
 nod:s.1.Nodup
theorem TI.all{p:SP}(hp:OkSP p)(hl:∀ a∈p.a,okOp a.op):∀ i,i≤p.a.length→TI p i (tidA p i):=by
 intro i
 induction i with
 | zero=>exact fun _=>⟨rfl,Nat.le_refl _,fun j h=>by omega,fun j h=>by omega,fun x h=>by simp[tidA]at h,by simp[tidA]⟩
 | succ i ih=>
   intro hi;have hi':i<p.a.length:=by omega
   obtain⟨h1,h2,h3,h4,h5,h6⟩:=ih (by omega);rw[tidA_succ p hi'];obtain⟨k,e1,e2,e3,e4,e5⟩:=plT_at hp hl hi';generalize tidA p i=s at h1 h2 h3 h4 h5 h6;unfold tidS;have old:∀ (x:Int) (j:Nat),j<i→(s.2++[x])[j]?=s.2[j]?:=fun x j h=>by rw[List.getElem?_append_left (by omega)]
   have new:∀ x:Int,(s.2++[x])[i]?=some x:=fun x=>by rw[←h1,List.getElem?_concat_length]
   cases hc:canL p.a[i].e.t with
   | nil=>
     dsimp only;refine⟨by simp[h1],by dsimp only;omega,fun j h h' e=>?_,fun j h h' v c l e=>?_,fun x hx=>?_,h6⟩
     ·rcases Nat.lt_succ_iff_lt_or_eq.1 h with h | rfl
      ·dsimp only;rw[old _ j h];exact h3 j h h' e
      ·dsimp only;rw[new]
     ·rcases Nat.lt_succ_iff_lt_or_eq.1 h with h | rfl
      ·dsimp only;rw[old _ j h];exact h4 j h h' v c l e
      ·rw[hc]at e;cases e
     ·obtain⟨j,g1,g2⟩:=h5 x hx;exact⟨j,by omega,g2⟩
   | cons t l=>
     obtain⟨v,c⟩:=t;dsimp only;rw[e1];by_cases hk:k<i
     ·rw[if_pos (by omega),Int.toNat_natCast];have hck:∃ w d m,canL p.a[k].e.t=(w,d)::m:=by
       cases hx:canL p.a[k].e.t with
       | nil=>rw[e4.lead_iff.1 hx]at hc;cases hc
       | cons t m=>exact⟨t.1,t.2,m,rfl⟩
      obtain⟨w,d,m,hck⟩:=hck;obtain⟨q,q1,q2⟩:=h4 k hk e3 w d m hck;have hsame:=(same_can hck hc).1 e4;refine⟨by simp[h1],by dsimp only;omega,fun j h h' e=>?_,fun j h h' v' c' l' e=>?_,fun x hx=>?_,h6⟩
      ·rcases Nat.lt_succ_iff_lt_or_eq.1 h with h | rfl
       ·dsimp only;rw[old _ j h];exact h3 j h h' e
       ·rw[hc]at e;cases e
      ·rcases Nat.lt_succ_iff_lt_or_eq.1 h with h | rfl
       ·dsimp only;rw[old _ j h];exact h4 j h h' v' c' l' e
       ·rw[hc]at e;simp only[List.cons.injEq,Prod.mk.injEq]at e;obtain⟨⟨rfl,rfl⟩,rfl⟩:=e;dsimp only;rw[new,q1];exact⟨q,rfl,by rw[q2,hsame]⟩
      ·obtain⟨j,g1,g2⟩:=h5 x hx;exact⟨j,by omega,g2⟩
     ·obtain rfl:k=i:=by omega
      rw[if_neg (by omega)];refine⟨by simp[h1],by simp;omega,fun j h h' e=>?_,fun j h h' v' c' l' e=>?_,fun x hx=>?_,?_⟩
      ·rcases Nat.lt_succ_iff_lt_or_eq.1 h with h | rfl
       ·dsimp only;rw[old _ j h];exact h3 j h h' e
       ·rw[hc]at e;cases e
      ·rcases Nat.lt_succ_iff_lt_or_eq.1 h with h | rfl
       ·dsimp only;rw[old _ j h];obtain⟨q,q1,q2⟩:=h4 j h h' v' c' l' e;refine⟨q,q1,?_⟩;have:q<s.1.length:=by
         rw[List.getElem?_eq_some_iff]at q2;exact q2.1
        rw[List.getElem?_append_left this,q2]
       ·rw[hc]at e;simp only[List.cons.injEq,Prod.mk.injEq]at e;obtain⟨⟨rfl,rfl⟩,rfl⟩:=e;dsimp only;rw[new];exact⟨s.1.length,rfl,List.getElem?_concat_length⟩
      ·rcases List.mem_append.1 hx with hx | hx
       ·obtain⟨j,g1,g2⟩:=h5 x hx;exact⟨j,by omega,g2⟩
       ·exact⟨k,by omega,e3,v,c,l,hc,List.mem_singleton.1 hx⟩
      ·rw[List.nodup_append];refine⟨h6,by simp,fun x hx y hy=>?_⟩;rw[List.mem_singleton.1 hy];intro e;obtain⟨j,g1,g2,v',c',l',g3,g4⟩:=h5 x hx;exact e5 j g1 ((same_can g3 hc).2 (by rw[←g4,e]))
theorem szI_neg(l:Int):szI (-l)=szI l:=by unfold szI;split<;>split<;>omega
theorem altB_iff:∀ {x:List Int},SrtI x→(∀l∈x,okLi l)→(altB x=true↔∃ m∈x,-m∈x)
 | [],_,_=>by simp[altB]
 | [a],_,ho=>by
   have:=(ho a (by simp)).1;simp only[altB,Bool.false_eq_true,false_iff,List.mem_singleton,exists_eq_left];omega
 | a::b::l,hs,ho=>by
   have ha:=ho a (by simp);have hb:=ho b (by simp);have h1:ahI a b=true:=List.rel_of_pairwise_cons hs (by simp);have hs':SrtI (b::l):=(List.pairwise_cons.1 hs).2;have ih:=altB_iff hs' fun x h=>ho x (by simp[h]);have key: -a∈b::l→b= -a:=fun h=>by
    rcases List.mem_cons.1 h with h | h
    ·exact h.symm
    ·have h2:ahI b (-a)=true:=List.rel_of_pairwise_cons hs' h;unfold ahI at h1 h2;have h1:=of_decide_eq_true h1;have h2:=of_decide_eq_true h2;rw[szI_neg]at h2;have e:szI a=szI b:=by omega
     have:=ha.1;unfold szI at e h1 h2;split at e<;>split at e<;>omega
   show (decide (b= -a)||altB (b::l))=true↔_;rw[Bool.or_eq_true,decide_eq_true_iff,ih];constructor
   ·rintro (h | ⟨m,h1,h2⟩)
    ·exact⟨a,by simp,by rw[←h];simp⟩
    ·exact⟨m,by simp[List.mem_cons.1 h1],List.mem_cons_of_mem _ h2⟩
   ·rintro ⟨m,h1,h2⟩;rcases List.mem_cons.1 h1 with rfl | h1
    ·rcases List.mem_cons.1 h2 with h2 | h2
     ·have:=ha.1;omega
     ·exact .inl (key h2)
    ·rcases List.mem_cons.1 h2 with h2 | h2
     ·obtain rfl:m= -a:=by omega
      exact .inl (key h1)
     ·exact .inr ⟨m,h1,h2⟩
theorem renV_cases{p:SP}(hp:OkSP p)(hl:Loose p){l:Int}(h:knoL p.b p.a.length l):
  (szI l≤p.b∧renV p.b (tidA p p.a.length).2 l=l)∨
  ∃j,∃hj:j<p.a.length,szI l=p.b+j+1∧((canL p.a[j].e.t=[]∧renV p.b (tidA p p.a.length).2 l=if sayB p.a[j].op p.a[j].e.c=decide (0<l)then big40 else-big40)∨
   ∃v c t,canL p.a[j].e.t=(v,c)::t∧∃ k:Nat,(tidA p p.a.length).1[k]?=some (canA p.a[j] c)∧renV p.b (tidA p p.a.length).2 l=if l<0 then-(p.b+k+1)else p.b+k+1):=by
 obtain⟨ho,h2⟩:=h;have h3:=ho.1;have hb:=hl.b;obtain⟨h4,h5⟩:=szI_ok ho;by_cases h6:szI l≤p.b
 ·refine .inl ⟨h6,?_⟩;unfold renV;rw[if_neg (show ¬p.b<szI l by omega)];by_cases hn:l<0
  ·rw[if_pos hn];unfold szI;rw[if_pos hn];omega
  ·rw[if_neg hn];unfold szI;rw[if_neg hn]
 ·right;obtain⟨j,hj⟩:∃ j:Nat,szI l=p.b+j+1:=⟨(szI l-p.b-1).toNat,by omega⟩
  have hjn:j<p.a.length:=by omega
  have T:=TI.all hp (fun a h=>(hl.a a h).1) p.a.length (Nat.le_refl _);refine⟨j,hjn,hj,?_⟩;unfold renV;rw[if_pos (show p.b<szI l by omega),show (szI l-p.b-1).toNat=j by omega];cases hc:canL p.a[j].e.t with
  | nil=>
    left;refine⟨rfl,?_⟩;rw[T.shut j hjn hjn hc,Option.getD_some];by_cases hn:l<0
    ·rw[if_pos hn,show decide (0<l)=false from decide_eq_false (by omega)];cases sayB p.a[j].op p.a[j].e.c<;>simp
    ·rw[if_neg hn,show decide (0<l)=true from decide_eq_true (by omega)]
  | cons t m=>
    right;obtain⟨v,c⟩:=t;obtain⟨k,k1,k2⟩:=T.opn j hjn hjn v c m hc;refine⟨v,c,m,rfl,k,k2,?_⟩;rw[k1,Option.getD_some]
theorem ren_ok{p:SP}(hp:OkSP p)(hl:Loose p){l:Int}(h:knoL p.b p.a.length l):
  renV p.b (tidA p p.a.length).2 l=big40∨renV p.b (tidA p p.a.length).2 l= -big40∨
  (knoL p.b (tidA p p.a.length).1.length (renV p.b (tidA p p.a.length).2 l)∧szI (renV p.b (tidA p p.a.length).2 l)≤1040):=by
 have hb:=hl.b;have hb':p.b≤1000:=by
  have:=hl.g;unfold greatP at this;omega
 have hn:=hp.an;have T:=TI.all hp (fun a h=>(hl.a a h).1) p.a.length (Nat.le_refl _);rcases renV_cases hp hl h with ⟨h1,h2⟩ | ⟨j,hj,h1,⟨_,h2⟩ | ⟨v,c,t,_,k,k1,h2⟩⟩
 ·right;right;rw[h2];exact⟨⟨h.1,by omega⟩,by omega⟩
 ·rw[h2];split
  ·exact .inl rfl
  ·exact .inr (.inl rfl)
 ·right;right;have hk:k<(tidA p p.a.length).1.length:=by
   rw[List.getElem?_eq_some_iff]at k1;exact k1.1
  have:=T.m;have e:szI (renV p.b (tidA p p.a.length).2 l)=p.b+k+1:=by
   rw[h2];unfold szI;split<;>split<;>omega
  refine⟨⟨?_,by omega⟩,by omega⟩;rw[h2];unfold okLi;split<;>omega
theorem renL_ok{p:SP}(hp:OkSP p)(hl:Loose p){c:List Int}(h:∀ l∈c,knoL p.b p.a.length l)(hb:¬ big40∈c.map (renV p.b (tidA p p.a.length).2)):
  ∀v∈renL p.b (tidA p p.a.length).2 c,knoL p.b (tidA p p.a.length).1.length v∧szI v≤1040:=fun v hv=>by
 obtain⟨h1,h2⟩:=List.mem_filter.1 hv;have h2:=of_decide_eq_true h2;obtain⟨l,hl1,rfl⟩:=List.mem_map.1 h1;rcases ren_ok hp hl (h l hl1)with h3 | h3 | h3
 ·exact absurd (h3▸h1) hb
 ·exact absurd h3 h2
 ·exact h3
theorem renC_some{p:SP}{c x:List Int}(h:renC p.b (tidA p p.a.length).2 c=some x):
  ¬big40∈c.map (renV p.b (tidA p p.a.length).2)∧x=canI (renL p.b (tidA p p.a.length).2 c)∧altB x=false:=by
 unfold renC at h;split at h
 ·cases h
 rename_i h1;split at h
 ·cases h
 rename_i h2;injection h with h;subst h;exact⟨h1,rfl,by simpa using h2⟩
theorem renL_len(b:Int)(ts c:List Int):(canI (renL b ts c)).length≤c.length:=by
 refine Nat.le_trans (canI_len _) ?_;unfold renL;refine Nat.le_trans (List.length_filter_le _ _) ?_;rw[List.length_map];exact Nat.le_refl _
theorem tidP_ok{p:SP}(hp:OkSP p)(hl:Loose p):OkSP (tidP p)∧chkP (tidP p)=0:=by
 have T:=TI.all hp (fun a h=>(hl.a a h).1) p.a.length (Nat.le_refl _);have hn:=T.m;have han:=hp.an;have hcn:=hp.cn;have hg:=hl.g;unfold greatP at hg;have hA:∀ x∈(tidA p p.a.length).1,OkAt x∧insA p.r x∧canP x:=fun x hx=>by
  obtain⟨j,hj,hj',v,c,l,h1,rfl⟩:=T.src x hx;have hm:=List.getElem_mem hj';exact⟨(hp.a _ hm).form h1 (can_lead h1).2,canP_in (hl.a _ hm).2 h1,canP_can (hl.a _ hm).1 h1⟩
 have hC:∀ x∈p.c.filterMap (renC p.b (tidA p p.a.length).2),x.length≤64∧(∀v∈x,knoL p.b (tidA p p.a.length).1.length v)∧canI x=x:=fun x hx=>by
  obtain⟨c,hc,e⟩:=List.mem_filterMap.1 hx;obtain⟨e1,rfl,_⟩:=renC_some e;have hlen:c.length≤64:=by
   refine Nat.le_of_not_lt fun h=>hg ?_;exact .inr (.inr (.inr (.inr ⟨c,hc,h⟩)))
  exact⟨Nat.le_trans (renL_len _ _ _) hlen,fun v hv=>(renL_ok hp hl (hl.c c hc) e1 v ((canI_mem _ _).1 hv)).1,canI_can _⟩
 have hlen:(p.c.filterMap (renC p.b (tidA p p.a.length).2)).length≤p.c.length:=List.length_filterMap_le _ _;have hok:OkSP (tidP p):=⟨fun a h=>(hA a h).1,by show (tidA p p.a.length).1.length≤40;omega,by show (p.c.filterMap (renC p.b (tidA p p.a.length).2)).length≤60;omega,
  fun c h=>⟨by have:=(hC c h).1;omega,fun l hl=>((hC c h).2.1 l hl).1.inR⟩,hp.r,hp.b⟩
 refine⟨hok,chkP_ok ?_ ?_ ⟨(goodA_iff hok).2 fun i hi=>?_,fun c h=>⟨fun l hl=>((hC c h).2.1 l hl).1,(hC c h).2.2,fun l hl=>(hC c h).2.1 l hl⟩⟩⟩
 ·rintro (h | h | h | h | ⟨c,h,h1⟩)
  ·exact hg (.inl h)
  ·exact hg (.inr (.inl h))
  ·have:(tidA p p.a.length).1.length>2000:=h;omega
  ·have:(p.c.filterMap (renC p.b (tidA p p.a.length).2)).length>4000:=h;omega
  ·have:=(hC c h).1;omega
 ·have:=hl.r;have:=hl.b;show ¬(p.r<0∨p.b<0);omega
 ·have hi':i<(tidA p p.a.length).1.length:=hi;obtain⟨_,h2,h3⟩:=hA _ (List.getElem_mem hi');refine⟨(canP_one _).1 h3,h2,fun j hj hs=>?_⟩;have hj':j<(tidA p p.a.length).1.length:=by omega
  have e:=canP_uniq (hA _ (List.getElem_mem hj')).2.2 h3 hs;exact absurd ((List.getElem_inj T.nod).1 e) (by omega)
theorem chk_loose{p:SP}(_hp:OkSP p)(h:chkP p=0):Loose p:=by
 obtain⟨h1,h2,h3,h4,h5⟩:=chkP_zero h;refine⟨h1,h2,h3,fun a ha=>?_,fun c hc=>(h5 c hc).2.2⟩;obtain⟨i,hi,rfl⟩:=List.getElem_of_mem ha;exact⟨(h4 i hi).2.2.1,(h4 i hi).2.1⟩
noncomputable def truB (p:SP)(xs:List Rat)(bs:List Bool)(l:Int):Bool:=
 decide ((if szI l-1<p.b then bs[(szI l-1).toNat]?.getD false else match p.a[(szI l-1-p.b).toNat]? with | some a=>atP a xs | none=>false)=decide (0<l))
noncomputable def holP (p:SP)(xs:List Rat)(bs:List Bool):Bool:=p.c.all fun c=>c.any (truB p xs bs)
theorem truB_neg(p:SP)(xs:List Rat)(bs:List Bool){l:Int}(h:okLi l):truB p xs bs (-l)=!truB p xs bs l:=by
 have h0:=h.1;unfold truB;rw[szI_neg];generalize (if szI l-1<p.b then bs[(szI l-1).toNat]?.getD false else match p.a[(szI l-1-p.b).toNat]? with | some a=>atP a xs | none=>false)=t;by_cases hl:0<l
 ·rw[decide_eq_true hl,decide_eq_false (by omega:¬ 0< -l)];cases t<;>rfl
 ·rw[decide_eq_false hl,decide_eq_true (by omega:0< -l)];cases t<;>rfl
end Go.Proofs.YtbbpecfapohlaaaGreatDoor
