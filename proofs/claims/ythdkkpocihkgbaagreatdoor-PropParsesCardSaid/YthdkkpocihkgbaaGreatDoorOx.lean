import Derived.Deep.RegionHeld
import Derived.Test.YthdkkpocihkgbaaGreatDoorOw
namespace Go.Proofs.YthdkkpocihkgbaaGreatDoor
open Go.RowKit
def wD(N:Act→World→Prop)(Q:Exit→Act→World→Prop):Exit→Act→World→Prop
 | .normal,a,w=>N a w
 | e,a,w=>Q e a w
theorem Oper.Dk{P:Program}{Q Q':Exit→Act→World→Prop}{o:Oper}{a:Act}{w:World}{K:Act→World→Prop}(hq:∀ e a w,e≠ .normal→Q' e a w→Q e a w)(h:o.wp P a w K Q'):o.wp P a w K Q:=by
 unfold Oper.wp at*;generalize (execOp a.eval o).run P w=r at*;cases r with
 | ok n w'=>
   cases n<;>simp only[Oper.upon]at h ⊢
   case value=>exact h
   case skip=>exact h
   case defer=>exact h
   case enter f args=>
    refine Calls.mono h fun e w'' he=>?_;cases e with
    | returned u=>exact he
    | panicked c=>exact hq _ _ _ (by simp) he
    | outgrown=>obtain⟨a2,w2,h2⟩:=he;exact⟨a2,w2,hq _ _ _ (by simp) h2⟩
   case row=>exact h
 | halt x w'=>
   cases x<;>simp only[Oper.upon]at h ⊢
   case panic u=>exact hq _ _ _ (by simp) h
theorem yE{Q Q':Exit→Act→World→Prop}(hq:∀ e a w,e≠ .normal→Q' e a w→Q e a w)(h:LetsOut Q'):LetsOut Q:=by
 obtain⟨a,w,h⟩:=h;exact⟨a,w,hq _ _ _ (by simp) h⟩
theorem gA{o:Oper}(hg:o.guard=none)(y:Nat→Option Bool):Region.wanted o y=true:=by simp[Region.wanted,hg]
theorem j6{listed:Array Bool}{b d:Bool}{i:Nat}(h:i<listed.size):(listed.push b).getD i d=listed.getD i d:=by
 simp[Array.getD_eq_getD_getElem?,Array.getElem?_push_lt h,h]
theorem zw{listed:Array Bool}{i:Nat}(h:i<listed.size):(listed.push false).setIfInBounds i true=(listed.setIfInBounds i true).push false:=by
 apply Array.toList_inj.1;rw[Array.toList_setIfInBounds,Array.toList_push,Array.toList_push,Array.toList_setIfInBounds,List.set_append_left _ _ (by simpa using h)]
theorem qw{P:Program}{Q:Exit→Act→World→Prop}{l:List Oper}{o:Oper}(hg:o.guard=none)(hng:∀ p∈l,p.guard=none)(hlast:∀ j,j<l.length→((bf (l++[o]) []).getD l.length 0).testBit j=true)
  (hedge:∀ (i:Nat) (p:Oper),(l++[o])[i]?=some p→∀ e∈p.after,Region.binds .any e=true→e.on<i):
  ∀(fuel:Nat) (listed:Array Bool) (a:Act) (w:World),listed.size=l.length→Closed l.toArray (lst listed)→
   wpAny P .any l.toArray (wD (fun a w=>o.wp P a w (Q .normal) Q∨(o.asks P a w∧LetsOut Q)) Q) fuel listed a w→wpAny P .any (l++[o]).toArray Q (fuel+1) (listed.push false) a w:=by
 intro fuel;have hq:∀ e a w,e≠ .normal→wD (fun a w=>o.wp P a w (Q .normal) Q∨(o.asks P a w∧LetsOut Q)) Q e a w→Q e a w:=fun e a w he h=>by
  cases e<;>first | exact h | exact absurd rfl he
 have hget:∀ i p,l[i]?=some p→(l++[o])[i]?=some p:=fun i p h=>by
  rw[List.getElem?_append_left (List.getElem?_eq_some_iff.1 h).1];exact h
 have hgo:(l++[o]).toArray[l.length]?=some o:=by simp
 have hmem:∀ (listed:Array Bool),listed.size=l.length→Closed l.toArray (lst listed)→∀ i∈Region.ready .any (l++[o]).toArray (listed.push false),i∈Region.ready .any l.toArray listed∨(i=l.length∧∀ j,j<l.length→lst listed j):=fun listed hsz hcl i hi=>by
  obtain⟨h1,p,h2,h3⟩:=mem_ready.1 hi;have hpi:(l++[o])[i]?=some p:=by simpa using h2
  have hil:i<l.length+1:=by simpa using (List.getElem?_eq_some_iff.1 hpi).1
  by_cases e:i=l.length
  ·subst e;refine .inr ⟨rfl,fun j hj=>?_⟩;have hcl':Closed (l++[o]).toArray (lst (listed.push false)):=fun k q hk hl e he hb=>by
    have hk':(l++[o])[k]?=some q:=by simpa using hk
    have hkl:k<l.length+1:=by simpa using (List.getElem?_eq_some_iff.1 hk').1
    have hkn:k<l.length:=by
     rcases Nat.lt_or_ge k l.length with h | h
     ·exact h
     ·have:k=l.length:=by omega
      subst this;simp[lst,Array.getD_eq_getD_getElem?,←hsz]at hl
    have hke:=hedge k q hk' e he hb;have:=hcl k q (by rw[List.getElem?_append_left hkn]at hk';simpa using hk') (by rw[lst,j6 (by omega)]at hl;exact hl) e he hb;rw[lst,j6 (by omega)];exact this
   have:=hcl'.bits (i:=l.length) hgo (fun e he hb=>by
    obtain rfl:p=o:=by rw[hgo]at h2;injection h2 with h2;exact h2.symm
    exact h3 e he hb) j (by simpa using hlast j hj)
   rw[lst,j6 (by omega)]at this;exact this
  ·have hin:i<l.length:=by omega
   refine .inl (mem_ready.2 ⟨by rw[j6 (by omega)]at h1;exact h1,p,by rw[List.getElem?_append_left hin]at hpi;simpa using hpi,fun e he hb=>?_⟩);have:=h3 e he hb;have hlt:=hedge i p hpi e he hb;rw[j6 (by omega)]at this;exact this
 have hend:∀ (n:Nat) (listed:Array Bool) (a:Act) (w:World),listed.size=l.length→(∀j,j<l.length→lst listed j)→(o.wp P a w (Q .normal) Q∨(o.asks P a w∧LetsOut Q))→wpOp P (l++[o]).toArray Q l.length (wpAny P .any (l++[o]).toArray Q n ((listed.push false).setIfInBounds l.length true)) a w:=fun n listed a w hsz hall h=>by
  have hr:Region.ready .any (l++[o]).toArray ((listed.push false).setIfInBounds l.length true)=[]:=List.eq_nil_iff_forall_not_mem.2 fun j hj=>by
   have h1:=(mem_ready.1 hj).1;have hjl:j<l.length+1:=by
    obtain⟨_,p,h2,_⟩:=mem_ready.1 hj;have:=(Array.getElem?_eq_some_iff.1 h2).1;simpa using this
   by_cases e:j=l.length
   ·subst e;simp[Array.getD_eq_getD_getElem?,hsz]at h1
   ·have:=hall j (by omega);rw[lst,Array.getD_eq_getD_getElem?]at this;rw[Array.getD_eq_getD_getElem?,Array.getElem?_setIfInBounds_ne (Ne.symm e),Array.getElem?_push_lt (by omega)]at h1;rw[Array.getElem?_eq_getElem (by omega)]at this;simp at this h1;rw[this]at h1;cases h1
  have hK:∀ a w,Q .normal a w→wpAny P .any (l++[o]).toArray Q n ((listed.push false).setIfInBounds l.length true) a w:=fun a w hq=>by
   cases n with
   | zero=>exact⟨hr,hq⟩
   | succ n=>exact⟨fun _=>hq,by rw[hr];simp⟩
  unfold wpOp;rw[hgo];simp only;rw[if_pos (gA hg _)];rcases h with h | h
  ·exact .inl (Oper.wp_mono hK h)
  ·exact .inr h
 have hfull:∀ (listed:Array Bool),listed.size=l.length→(∀j,j<l.length→lst listed j)→Region.ready .any l.toArray listed=[]:=fun listed hsz hall=>List.eq_nil_iff_forall_not_mem.2 fun j hj=>by
  have h1:=(mem_ready.1 hj).1;have hjl:j<l.length:=by
   obtain⟨_,p,h2,_⟩:=mem_ready.1 hj;simpa using (Array.getElem?_eq_some_iff.1 h2).1
  have:=hall j hjl;rw[lst,Array.getD_eq_getD_getElem?,Array.getElem?_eq_getElem (by omega)]at this;rw[Array.getD_eq_getD_getElem?,Array.getElem?_eq_getElem (by omega)]at h1;simp at this h1;rw[this]at h1;cases h1
 have hready:∀ (listed:Array Bool),listed.size=l.length→Region.ready .any (l++[o]).toArray (listed.push false)=[]→False:=fun listed hsz h=>by
  have:=mz (ops:=(l++[o]).toArray) (listed:=listed.push false) (by simp[hsz]) (fun i p hp=>hedge i p (by simpa using hp)) h l.length (by simp);simp[lst,Array.getD_eq_getD_getElem?,←hsz]at this
 induction fuel with
 | zero=>
   intro listed a w hsz hcl h;obtain⟨h1,h2⟩:=h;refine⟨fun hr=>(hready listed hsz hr).elim,fun i hi=>?_⟩;rcases hmem listed hsz hcl i hi with hm | ⟨rfl,hall⟩
   ·rw[h1]at hm;cases hm
   ·exact hend 0 listed a w hsz hall h2
 | succ fuel ih=>
   intro listed a w hsz hcl h;obtain⟨h1,h2⟩:=h;refine⟨fun hr=>(hready listed hsz hr).elim,fun i hi=>?_⟩;rcases hmem listed hsz hcl i hi with hm | ⟨rfl,hall⟩
   ·have h3:=h2 i hm;obtain⟨hun,p,hp,hed⟩:=mem_ready.1 hm;have hil:i<l.length:=by simpa using (Array.getElem?_eq_some_iff.1 hp).1
    have hpl:l[i]?=some p:=by simpa using hp
    have hgp:p.guard=none:=hng p (List.mem_of_getElem? hpl);have hset:=wi (listed:=listed) (i:=i) (by omega);have hK:∀ a w,wpAny P .any l.toArray (wD (fun a w=>o.wp P a w (Q .normal) Q∨(o.asks P a w∧LetsOut Q)) Q) fuel (listed.setIfInBounds i true) a w→wpAny P .any (l++[o]).toArray Q (fuel+1) ((listed.push false).setIfInBounds i true) a w:=fun a w hw=>by
     rw[zw (by omega)];refine ih _ a w (by simp[hsz]) (fun j q hq hj e he hb=>?_) hw;rcases (hset j).1 hj with h | h
     ·exact(hset _).2 (.inl (hcl j q hq h e he hb))
     ·subst h;rw[hp]at hq;injection hq with hq;subst hq;exact(hset _).2 (.inl (hed e he hb))
    unfold wpOp at h3 ⊢;rw[hp]at h3;rw[show (l++[o]).toArray[i]?=some p by simpa using hget i p hpl];simp only at h3 ⊢;rw[if_pos (gA hgp _)]at h3 ⊢;rcases h3 with h3 | ⟨h3,h4⟩
    ·exact .inl (Oper.wp_mono hK (Oper.Dk hq h3))
    ·exact .inr ⟨h3,yE hq h4⟩
   ·have hr:=hfull listed hsz hall;exact hend (fuel+1) listed a w hsz hall (h1 hr)
theorem me{P:Program}{md:Region.Mode}{ops:Array Oper}{Q Q':Exit→Act→World→Prop}(hq:∀ e a w,Q' e a w→Q e a w):∀ (fuel:Nat) (listed:Array Bool) (a:Act) (w:World),wpAny P md ops Q' fuel listed a w→wpAny P md ops Q fuel listed a w
 | 0,_,_,_,h=>⟨h.1,hq _ _ _ h.2⟩
 | fuel+1,listed,a,w,h=>⟨fun hr=>hq _ _ _ (h.1 hr),fun i hi=>by
    have h3:=h.2 i hi;unfold wpOp at h3 ⊢;cases e:ops[i]? with
    | none=>rw[e]at h3;exact me hq fuel _ a w h3
    | some p=>
      rw[e]at h3;simp only at h3 ⊢;split
      ·rename_i hw;rw[if_pos hw]at h3;rcases h3 with h3 | ⟨h3,h4⟩
       ·exact .inl (Oper.wp_mono (fun a w h=>me hq fuel _ a w h) (Oper.Dk (fun e a w _ h=>hq e a w h) h3))
       ·exact .inr ⟨h3,yE (fun e a w _ h=>hq e a w h) h4⟩
      ·rename_i hw;rw[if_neg hw]at h3;exact me hq fuel _ _ w h3⟩
def vT(ms:List Nat)(n:Nat):Bool:=(List.range n).all fun j=>(ms.getD n 0).testBit j
section
variable {P:Program}{w0:World}{S0:Nat→Prop}{M:List Value}{nt id:Nat}{Q:Exit→AS→Prop}{σ:AS}
theorem AC.Dw{l0:List Oper}(o:Oper)(hl:l0=l0.dropLast++[o])(hm:P.follows .mixedOrders=true)
  (hok:((l0.all fun o=>dstOK nt o&&o.guard.isNone)&&regOK l0.toArray&&regOK l0.dropLast.toArray&&vT (bf l0 []) l0.dropLast.length)=true)
  (h:∀ (K:AS→Prop) (ms:List Nat),ms=bf l0.dropLast []→(∀σ,(∀K',(∀σ,Q .normal σ→K' σ)→Ch P ⟨w0,S0,M,nt⟩ #[] ko K' none [o] σ)→K σ)→Ch P ⟨w0,S0,M,nt⟩ #[] (fin ms) K (some []) l0.dropLast σ):AC P ⟨w0,S0,M,nt⟩ (.region id l0.toArray true) Q σ:=by
 generalize l0.dropLast=l at*;subst hl;simp only[Bool.and_eq_true]at hok;obtain⟨⟨⟨hok,hreg⟩,hreg2⟩,hla⟩:=hok;have h1:∀ p∈l++[o],dstOK nt p=true:=fun p hp=>by have:=List.all_eq_true.1 hok p hp;rw[Bool.and_eq_true]at this;exact this.1
 have h2:∀ p∈l++[o],p.guard=none:=fun p hp=>by have:=List.all_eq_true.1 hok p hp;rw[Bool.and_eq_true]at this;simpa using this.2
 have hchain:=(h (fun σ=>∀ K',(∀σ,Q .normal σ→K' σ)→Ch P ⟨w0,S0,M,nt⟩ #[] ko K' none [o] σ) _ rfl fun _ h=>h).rp (ops:=l.toArray) (List.all_eq_true.2 fun p hp=>by rw[h2 p (List.mem_append_left _ hp)];rfl);intro a w hs;obtain⟨vs,fs,τ,tot,e1,h3,h4,h5,h6,_,h8⟩:=Ch.steps l.toArray.size 0 l σ [] (by omega) rfl hchain (by simp);refine wp_region_any hm ?_;subst e1;obtain⟨β,hi⟩:=hs;have hx:bg w {w with drawn:=w.drawn+1 }:=⟨rfl,rfl,rfl,Nat.le_refl _,fun _ _=>rfl⟩
 have hnone:∀ i,¬lst (Array.replicate l.toArray.size false) i:=fun i=>by
  simp only[lst,Array.getD_eq_getD_getElem?,Array.getElem?_replicate];split<;>simp
 have hI:=okI.out h5 (fun i=>bA (vs i) (fs i)) (fun i hi=>h8 i (Nat.zero_le _) (by rw[←h6];exact hi));rw[h6]at hI;have hstart:Closed l.toArray (lst (Array.replicate l.toArray.size false)):=fun k o _ h=>absurd h (hnone k);have hany:=vA (Q:=fun e σ=>match e with
   | .normal=>∀ K',(∀σ,Q .normal σ→K' σ)→Ch P ⟨w0,S0,M,nt⟩ #[] ko K' none [o] σ
   | e=>Q e σ) (regOK.out hreg2) (by simpa using hI) (fun i p hp=>h1 p (List.mem_append_left _ (List.mem_of_getElem? (by simpa using hp)))) (fun i hi=>h3 i (Nat.zero_le _) hi) h4 l.toArray.size (Array.replicate l.toArray.size false) (τ 0) a _ (by simp) hstart (Nat.le_trans List.count_le_length (by simp)) (Sees.start _ _ _ _ _ hnone) ⟨β,hi.ext hx⟩
 have hlast:=qw (P:=P) (Q:=eH ⟨w0,S0,M,nt⟩ Q) (l:=l) (o:=o) (h2 o (by simp)) (fun p hp=>h2 p (List.mem_append_left _ hp)) (fun j hj=>by
  have:=List.all_eq_true.1 hla j (List.mem_range.2 hj);exact this) (fun i p hp e he hb=>(regOK.out hreg).edge i p (by simpa using hp) e he hb) l.toArray.size (Array.replicate l.toArray.size false) a {w with drawn:=w.drawn+1 } (by simp) hstart ?_
 ·have e:(Array.replicate l.toArray.size false).push false=Array.replicate (l++[o]).toArray.size false:=by
   apply Array.toList_inj.1;simp[List.replicate_succ']
  rw[e]at hlast;simpa using hlast
 ·refine me (fun e a w he=>?_) _ _ _ _ hany;cases e with
  | normal=>
    obtain⟨σ,q1,q2⟩:=he;have:=(q1 _ fun _ h=>h).seq (Q:=fun e σ=>Q e σ) (fun p hp=>by
     have:p=o:=by simpa using hp
     subst this;exact h1 p (by simp)) a w q2
    unfold wpList at this;rw[if_pos (gA (h2 o (by simp)) _)]at this;exact this
  | _=>exact he
end
section
variable {P:Program}{C:Cx}{o:Oper}{σ:AS}
theorem Inv.BV{β:Nat→Value}{a:Act}{w:World}(h:Inv C σ β a w){id d:Nat}{x:Value}{e:TypeId}{k:Nat}{xs:List (List D)}(hO:af σ.objs id=some (gF x e k xs))(hd:d<C.nt)(hn:NoRef σ d):
  Inv C ⟨σ.env,(d,.row 0 e k xs)::(id,.dead)::σ.objs⟩ (ao (ao β id undef) d x) a w:=by
 have hne:id≠d:=(hn.obj id _ hO).1;obtain⟨hx,⟨css,c1,c2,c3,c4⟩,_⟩:=h.obj id _ hO;have hg:∀ i o',af ((d,AO.row 0 e k xs)::(id,AO.dead)::σ.objs) i=some o'→(i=d∧o'= .row 0 e k xs)∨(i=id∧o'= .dead)∨(i≠d∧i≠id∧af σ.objs i=some o'):=fun i o' hi=>by
  rw[ai]at hi;by_cases e1:d=i
  ·rw[if_pos e1]at hi;injection hi with hi;exact .inl ⟨e1.symm,hi.symm⟩
  ·rw[if_neg e1,ai]at hi;by_cases e2:id=i
   ·rw[if_pos e2]at hi;injection hi with hi;exact .inr (.inl ⟨e2.symm,hi.symm⟩)
   ·rw[if_neg e2]at hi;exact .inr (.inr ⟨Ne.symm e1,Ne.symm e2,hi⟩)
 have hbd:ao (ao β id undef) d x d=x:=by simp[ao]
 have hbi:ao (ao β id undef) d x id=undef:=by simp[ao,hne]
 have hbo:∀ i,i≠d→i≠id→ao (ao β id undef) d x i=β i:=fun i h1 h2=>by simp[ao,h1,h2]
 have hD:∀ b,Dat C β σ.objs w b→Dat C (ao (ao β id undef) d x) ((d,.row 0 e k xs)::(id,.dead)::σ.objs) w b∧w.heap[b]?=w.heap[b]?:=fun b hb=>⟨⟨hb.1,hb.2.1,fun i o' hi=>by
  rcases hg i o' hi with ⟨rfl,_⟩ | ⟨rfl,_⟩ | ⟨e1,e2,hi⟩
  ·rw[hbd,←hx];exact hb.2.2 id _ hO
  ·rw[hbi];intro e;cases e
  ·rw[hbo i e1 e2];exact hb.2.2 i o' hi⟩,rfl⟩
 have hA:∀ {u:Value} {v:AV},RA (Dat C β σ.objs w) w β σ.objs u v→gI d v=false→RA (Dat C (ao (ao β id undef) d x) ((d,.row 0 e k xs)::(id,.dead)::σ.objs) w) w (ao (ao β id undef) d x) ((d,.row 0 e k xs)::(id,.dead)::σ.objs) u v:=fun {u v} h hn=>by
  refine RA.fresh (w':=w) (h.keep (w':=w) (S':=Dat C β σ.objs w) (β':=ao β id undef) (O':=(id,AO.dead)::σ.objs) (fun b hb=>⟨hb,rfl⟩) (fun i T cs hi=>?_) (fun i g e' k' xs' hi=>?_)) hn hD
  ·rw[ai]at hi;by_cases e2:id=i
   ·rw[if_pos e2]at hi;cases hi
   ·rw[if_neg e2]at hi;exact⟨⟨T,cs,hi⟩,by simp[ao,Ne.symm e2]⟩
  ·rw[ai]at hi;by_cases e2:id=i
   ·rw[if_pos e2]at hi;cases hi
   ·rw[if_neg e2]at hi;exact⟨g,e',k',xs',hi,Nat.le_refl _,fun _=>⟨rfl,by simp[ao,Ne.symm e2]⟩⟩
 have hown:∀ i o' b,af ((d,AO.row 0 e k xs)::(id,AO.dead)::σ.objs) i=some o'→aQ (ao (ao β id undef) d x i)=some b→(i=d∧aQ (β id)=some b)∨(i≠d∧i≠id∧af σ.objs i=some o'∧aQ (β i)=some b):=fun i o' b hi hb=>by
  rcases hg i o' hi with ⟨rfl,_⟩ | ⟨rfl,_⟩ | ⟨e1,e2,hi⟩
  ·rw[hbd,←hx]at hb;exact .inl ⟨rfl,hb⟩
  ·rw[hbi]at hb;cases hb
  ·rw[hbo i e1 e2]at hb;exact .inr ⟨e1,e2,hi,hb⟩
 refine⟨h.defs,h.nt,h.os,h.tape,h.output,h.size,h.fr,fun t v ht=>?_,fun i o' hi=>?_,fun i j oi oj b hi hj q1 q2=>?_,fun i oi b hi q=>?_,fun i y o' q1 q2 q3=>?_⟩
 ·obtain⟨u,h1,h2⟩:=h.env t v ht;exact⟨u,h1,hA h2 (hn.env t v ht)⟩
 ·rcases hg i o' hi with ⟨rfl,rfl⟩ | ⟨rfl,rfl⟩ | ⟨e1,e2,hi⟩
  ·exact⟨css,c1,fun j hj hj'=>(c2 j hj hj').keep hD,c3,by rw[hbd];exact c4⟩
  ·trivial
  ·have h1:=h.obj i o' hi;have hr:=(hn.obj i o' hi).2;cases o' with
   | box T2 cs2=>
     obtain⟨b2,us2,q1,q2,q3,q4,q5⟩:=h1;refine⟨b2,us2,by rw[hbo i e1 e2];exact q1,q2,q3,q4,fun j hj hj'=>hA (q5 j hj hj') ?_⟩;cases er:gI d cs2[j]with
     | false=>rfl
     | true=>
       have:d∈qf (.box T2 cs2):=List.mem_flatMap.2 ⟨_,List.getElem_mem hj',by unfold gI at er;simpa using er⟩;unfold oE at hr;rw[List.elem_eq_true_of_mem this]at hr;cases hr
   | row g e2' k2 xs2=>
     obtain⟨css2,q1,q2,q3,q4⟩:=h1;exact⟨css2,q1,fun j hj hj'=>(q2 j hj hj').keep hD,q3,by rw[hbo i e1 e2];exact q4⟩
   | dead=>trivial
   | own y R=>exact⟨by rw[hbo i e1 e2];exact h1.1,h1.2.2 _ _ _ _ h1.2.1 hD fun _ _=>rfl,h1.2.2⟩
 ·rcases hown i oi b hi q1 with ⟨rfl,p1⟩ | ⟨e1,e2,hi',p1⟩
  ·rcases hown j oj b hj q2 with ⟨rfl,p2⟩ | ⟨e3,e4,hj',p2⟩
   ·rfl
   ·exact absurd (h.dis _ _ _ _ b hj' hO p2 p1) e4
  ·rcases hown j oj b hj q2 with ⟨rfl,p2⟩ | ⟨e3,e4,hj',p2⟩
   ·exact absurd (h.dis _ _ _ _ b hi' hO p1 p2) e2
   ·exact h.dis _ _ _ _ b hi' hj' p1 p2
 ·rcases hown i oi b hi q with ⟨rfl,p1⟩ | ⟨e1,e2,hi',p1⟩
  ·exact h.own id _ b hO p1
  ·exact h.own i oi b hi' p1
 ·rcases hg _ o' q2 with ⟨e1,_⟩ | ⟨_,rfl⟩ | ⟨e1,e2,hi⟩
  ·omega
  ·cases q3
  ·rw[hbo _ e1 e2];exact h.pin i y o' q1 hi q3
theorem Do.ml{s x:Operand}{T T':TypeId}{d:Nat}{e:TypeId}{k bytes:Nat}{xs ys:List (List D)}{v:Value}(id:Nat)(ho:o.op= .call {callee:= .builtin .append,args:= #[s,x],argTypes:= #[T,T'] })(hd:o.dst=some d)(hs:ev σ s= .d (.v v))(hO:af σ.objs id=some (gF v e k xs))(hx:ev σ x= .d (.l ys))
  [h:Sl P T e k bytes] {e' k' by':Nat} [h':Sl P T' e' k' by'] (hk:∀ y∈ys,y.length=k) (hb:(xs.length+ys.length)*bytes≤140737488355328) (hne:0<ys.length):
  Do P C o σ (.r d 0) ⟨[id],[],[(d,.row 0 e k (xs++ys)),(id,.dead)],some d⟩:=by
 intro σ' hl hdst a w K Q' ⟨β,hi⟩ hK;have hdn:=dstOK.out hdst d hd;have hs1:=hl.ra hi (x:=s) (by rw[ho];simp[Op.operands,Call.operands]);rw[hs]at hs1;replace hO:af σ'.objs id=some (gF v e k xs):=by rw[hl.rd id (by simp)];exact hO
 have hx1:=hl.ra hi (x:=x) (by rw[ho];simp[Op.operands,Call.operands]);rw[hx]at hx1;have hu:=RA.val hs1;obtain⟨hbv,⟨css,h1,h2,h3,hown⟩,_⟩:=hi.obj id _ hO;obtain⟨dss,q1,q2,hsrc⟩:=RD.src hx1 h'.e.under hk;obtain⟨i,z,hinf,hz,hsize,hby,hzs⟩:=h.e.info;have hlen63:xs.length+ys.length≤9223372036854775807:=by
  have:=Nat.le_mul_of_pos_right (xs.length+ys.length) h.e.pos;omega
 obtain⟨v',w',hr,r1,r2,r3⟩:=fD (P:=P) w 0 T T' o.type e i z k bytes h.e.under hinf hz hsize hby hzs v xs.length css.flatten hown _ ys.length dss.flatten hsrc hlen63 hb (Nat.zero_le _);have hblk:=jF hown;have hblk':=jF r1;obtain⟨b,c,rfl⟩:∃ b c,v'=iV b (xs++ys).length c:=by
  rcases r1.2 with ⟨h0,h5⟩ | ⟨gb,cap,cur,hv,_⟩
  ·omega
  ·exact⟨gb,cap,by rw[hv,List.length_append]⟩
 unfold Oper.wp;rw[jR ho hu rfl hr];have hup:=hi.di (w':=w') id _ (gF (iV b (xs++ys).length c) e k (xs++ys)) hO (iV b (xs++ys).length c) r2.os r2.tape r2.output r2.size (fun k hk hne=>r2.block k hk fun e=>hne (by rw[hbv,hblk,←e])) (fun b2 hb=>by
  rw[hblk']at hb;have hlt:=r1.lt b2 hb;refine⟨?_,hlt.2⟩;rcases r3 b2 hb with h4 | h4
  ·left;rw[hbv,hblk];exact h4
  ·right;omega) trivial (fun hD _=>by
  refine⟨by simp[ao],?_,jJ _ _ _ _⟩;have:=RO.grown (O':=[]) (β':=fun _=>iV b (xs++ys).length c) (id:=id) (g':=0) h1 h2 h3 q1 q2 hk hD r1;exact this)
 have hnd:=hl.new d rfl;have hmv:=hup.BV (id:=id) (d:=d) (x:=iV b (xs++ys).length c) (e:=e) (k:=k) (xs:=xs++ys) (by rw[ai,if_pos rfl]) hdn ⟨hnd.env,fun i o' hi'=>by
  rw[ai]at hi';by_cases e1:id=i
  ·rw[if_pos e1]at hi';cases hi';exact⟨e1▸(hnd.obj id _ hO).1,rfl⟩
  ·rw[if_neg e1]at hi';exact hnd.obj i o' hi'⟩
 have hpt:=hmv.put (some d) (fun t ht=>by cases ht;exact hdn) (v:= .r d 0) (u:=iV b (xs++ys).length c) (by
  intro g' e2 k2 xs2 h4;rw[ai,if_pos rfl]at h4;cases h4;exact⟨Nat.le_refl _,fun _=>by simp[ao]⟩)
 refine hK _ _ ?_;rw[hd];refine St.pF (σ':=⟨(d,.r d 0)::σ'.env,(d,.row 0 e k (xs++ys))::(id,.dead)::(id,gF (iV b (xs++ys).length c) e k (xs++ys))::σ'.objs⟩) ⟨_,hpt⟩ (fun i=>?_) fun _ _ h=>h;simp only[AS.di,AS.put,List.cons_append,List.nil_append,ai]
 repeat' split
 all_goals rfl
theorem Ch.Du{ops:Array Oper}{fin:List Inf→Prop}{Q:AS→Prop}{l:List Inf}{rest:List Oper}{E:List (Nat×AV)}{O:List (Nat×AO)}{d:Nat}{v:AV}{R X:List Nat}{i1 i2:Nat}{o1 o2:AO}{nw:Option Nat}(hg:fq ops ⟨E,O⟩ o=some true)(hd:o.dst=some d)(h:Do P C o ⟨E,O⟩ v ⟨R,X,[(i1,o1),(i2,o2)],nw⟩)(hk:iB ⟨E,O⟩ ⟨R,X,[(i1,o1),(i2,o2)],nw⟩=true)(hn:newOK ⟨E,O⟩ ⟨R,X,[(i1,o1),(i2,o2)],nw⟩=true)(k:Ch P C ops fin Q (some (l++[bA v ⟨R,X,[(i1,o1),(i2,o2)],nw⟩])) rest ⟨(d,v)::E,(i1,o1)::(i2,o2)::O⟩):Ch P C ops fin Q (some l) (o::rest) ⟨E,O⟩:=
 .run hg h hk hn (by rw[hd];exact k)
theorem Ch.EW{ops:Array Oper}{fin:List Inf→Prop}{Q:AS→Prop}{rest:List Oper}{E:List (Nat×AV)}{O:List (Nat×AO)}{d:Nat}{v:AV}{R X:List Nat}{i1 i2:Nat}{o1 o2:AO}{nw:Option Nat}(hg:fq ops ⟨E,O⟩ o=some true)(hd:o.dst=some d)(h:Do P C o ⟨E,O⟩ v ⟨R,X,[(i1,o1),(i2,o2)],nw⟩)(hk:iB ⟨E,O⟩ ⟨R,X,[(i1,o1),(i2,o2)],nw⟩=true)(hn:newOK ⟨E,O⟩ ⟨R,X,[(i1,o1),(i2,o2)],nw⟩=true)(k:Ch P C ops fin Q none rest ⟨(d,v)::E,(i1,o1)::(i2,o2)::O⟩):Ch P C ops fin Q none (o::rest) ⟨E,O⟩:=
 .run hg h hk hn (by rw[hd];exact k)
end
section
variable {P:Program}{C:Cx}{o:Oper}{σ:AS}
theorem RD.EN{S:Nat→Prop}{w:World}{a:Option Addr}{n c k:Nat}{xs:List (List D)}(h:RD S w (.slice a n c) (.l xs))(i:Nat)(hi:i≤xs.length)(hk:∀ x∈xs,x.length=k):RD S w (sliced a i n c k) (.l (xs.drop i)):=by
 obtain⟨h1,h2,h3,k',css,h4,h5,h6,h7⟩:=h.cells;refine RD.kC (k:=k) (css:=css.drop i) (by simp;omega) (by omega) (by omega) (by simp;omega) (fun j hj=>?_) (fun j hj hj'=>?_) (fun h0=>?_)
 ·rw[List.getElem_drop];exact hk _ (List.getElem_mem _)
 ·rw[List.getElem_drop,List.getElem_drop];exact h6 _ (by simp at hj;omega) (by simp at hj';omega)
 ·obtain⟨b,o,e,hb,hr⟩:=h7 (by omega);have ek:k'=k:=by
   have e1:=h5 0 (by omega);have e2:=hk _ (List.getElem_mem (show 0<xs.length by omega));omega
  subst ek;refine⟨b,o+i*k',by rw[if_neg (by omega),e];simp[Addr.add],hb,fun j hj=>?_⟩;rw[List.getElem_drop];have:=hr (i+j) (by simp at hj;omega);rw[Nat.add_mul,←Nat.add_assoc]at this;exact this
theorem Loc.cC{T:TypeId}{x y:Operand}{e k by_:Nat}{xs:List (List D)}{n:Int}{kd:IntKind}(i:Nat)(ho:o.op= .slice T x (some y) none none)(hx:ev σ x= .d (.l xs))(hy:ev σ y= .d (.v (.int kd n)))(hn:n=(i:Int))(hi:i≤xs.length)[h:Sl P T e k by_](hk:∀ x∈xs,x.length=k):Loc P C o σ (.d (.l (xs.drop i))):=
 Loc.two (by rw[ho];simp[Op.operands]) hx (by rw[ho];simp[Op.operands]) hy fun S w β O c h1 h2=>by
  have e1:=RA.val h2;have h1:RD S w (c.eval x) (.l xs):=h1;generalize hu:c.eval x=u at h1;have hsl:∃ a m q,u= .slice a m q:=by cases h1;exact⟨_,_,_,rfl⟩
  obtain⟨a,m,q,rfl⟩:=hsl;have hm:=h1.cells;have ht:P.underlying T=some (.slice (P.elem T)):=by
   have:=h.e.under;unfold Program.elem;rw[this]
  obtain⟨inf,z,hi1,hi2,hi3,hi4⟩:=h.e.info;have he:P.elem T=e:=by
   have h3:=h.e.under;rw[ht]at h3;simpa using h3
  refine⟨sliced a i m q k,?_,h1.EN i hi hk⟩;unfold execOp;rw[ho];have hr:=run_slice_l (P:=P) (w:=w) T a m q ht kd n (by omega) (by omega);have hsz:(sizeOf (P.elem T)).run P w= .ok k w:=by rw[he];simp[sizeOf,typeInfo,hi1,hi3]
  rw[hsz,hn]at hr;simp only[Result.andThen,Int.toNat_natCast]at hr;rw[←hn]at hr;simp[hu,e1,run_sliceAt_slice _ _ _ _ _ _ ht,hr]
theorem Loc.jj{T Kt Et:TypeId}{m x:Operand}{b n id:Nat}{M:DataW Unit}{kv:Value}{kl:Lit}{c:Int}(ho:o.op= .lookup T m x false)(hm:ev σ m= .d (.v (.map (some b))))(hO:af σ.objs id=some (mr P Kt Et b n M))(hx:ev σ x= .d (.v kv))
  (hT:P.underlying T=some (.map Kt Et)) (hE:P.underlying Et=some (.int .i64)) (hz:∀ w,(zeroValue Et).run P w= .ok (.int .i64 0) w) (hk:Go.Maps.Keyed P Kt) (hkey:keyOf P Kt kv=some kl) (hc:M.atKey kl (.lit (.int .i64 0))= .lit (.int .i64 c)):
  ke P C o σ (.d (.v (.int .i64 c))) id:=by
 refine Loc.quiet fun σ' hl β a w hi=>?_;have h1:=hl.ra hi (x:=m) (by rw[ho];simp[Op.operands]);have h2:=hl.ra hi (x:=x) (by rw[ho];simp[Op.operands]);rw[hm]at h1;rw[hx]at h2;have e1:=RA.val h1;have e2:=RA.val h2;have hO':af σ'.objs id=some (mr P Kt Et b n M):=by rw[hl.rd id (by simp)];exact hO
 obtain⟨_,hown,_⟩:=hi.obj id _ hO';have hown:w.ownsMap P Kt (plainElem P Et) b n M:=hown;obtain⟨c',hrun,hc',_⟩:=hown.lookup_int hk hT hE (hz w) hkey;rw[hc]at hc';cases hc';exact⟨.int .i64 c,by unfold execOp;rw[ho];simp[e1,e2,hrun],.v rfl⟩
end
theorem St.val{C:Cx}{σ:AS}{a:Act}{w:World}{x:Operand}{v:Value}(hs:St C σ a w)(h:ev σ x= .d (.v v)):a.eval x=v:=by
 obtain⟨β,hi⟩:=hs;have:=hi.ev x;rw[h]at this;exact RA.val this
section
variable {P:Program}{C:Cx}{σ:AS}{ops:Array Oper}{S:World→Prop}{Qc:Exit→AS→Prop}
theorem gr{fuel:Nat}{listed:Array Bool}{a:Act}{w:World}(i:Nat)(x:Value){oi:Oper}{d:Nat}(hs:St C σ a w)(hp:∀ c σ,¬Qc (.panic c) σ)(hi:ops[i]?=some oi)(hd:oi.dst=some d)(hdn:Nat.blt d C.nt=true)(hg:oi.guard=none)(hns:Region.noSelect ops=true)(hfr:Region.free .any ops listed i=true)(hrd:(Region.ready .any ops listed).contains i=true)(hS:S w)
  (hy:∀ w',S w'→(execOp a.eval oi).run P w'= .ok (.value x) w') (hx:x.oneCell'=true)
  (k:∀ a',St C ⟨(d,.d (.v x))::σ.env,σ.objs⟩ a' w→wpAnyH P .any ops (eH C Qc) S fuel (listed.setIfInBounds i true) a' w):wpAnyH P .any ops (eH C Qc) S (fuel+1) listed a w:=by
 refine wpAnyH_take (i:=i) (v:=x) hi hns hfr hrd (fun c a w ⟨σ,h,_⟩=>absurd h (hp c σ)) (.inl ⟨gA hg _,hy⟩) hS (k _ ?_);obtain⟨β,hi'⟩:=hs;rw[Nat.blt_eq]at hdn;rw[hd];exact⟨β,hi'.put (some d) (fun t ht=>by cases ht;exact hdn) (v:= .d (.v x)) (.v hx)⟩
theorem gv{fuel:Nat}{listed:Array Bool}{a:Act}{w:World}(i:Nat){oi:Oper}(V:AS→Prop)(hs:St C σ a w)(hi:ops[i]?=some oi)(hg:oi.guard=none)(hr:Region.ready .any ops listed=[i])
  (h:∀ a w (K:Act→World→Prop) (Q':Exit→Act→World→Prop),St C σ a w→(∀σ' a' w',V σ'→St C σ' a' w'→K a' w')→oi.wp P a w K Q') (hS:∀ σ',V σ'→∀ a w,St C σ' a w→S w)
  (k:∀ σ',V σ'→∀ a' w',S w'→St C σ' a' w'→wpAnyH P .any ops (eH C Qc) S fuel (listed.setIfInBounds i true) a' w'):wpAnyH P .any ops (eH C Qc) S (fuel+1) listed a w:=by
 refine wpAnyH_ready hr (by simp) (AllReadyH.cons hi (fun K' hK=>?_) AllReadyH.nil);rw[if_pos (gA hg _)];exact h a w K' (eH C Qc) hs fun σ' a' w' hv hs'=>hK.out a' w' (hS σ' hv a' w' hs') fun hSw=>k σ' hv a' w' hSw hs'
theorem Do.eff{o:Oper}{v:AV}{f:Fx}(h:Do P C o σ v f)(hn:newOK σ f=true)(hd:dstOK C.nt o=true):∀ a w (K:Act→World→Prop) (Q':Exit→Act→World→Prop),St C σ a w→(∀σ' a' w',σ'=σ.di o.dst v f.W→St C σ' a' w'→K a' w')→o.wp P a w K Q':=fun a w K Q' hs hK=>
 h σ (.refl (newOK.out hn)) hd a w K Q' hs fun a' w' hs'=>hK _ a' w' rfl hs'
theorem AC.Ag{w0:World}{S0:Nat→Prop}{M:List Value}{nt id:Nat}{Q:Exit→AS→Prop}{l0:List Oper}(o:Oper)(hl:l0=l0.dropLast++[o])(hm:P.follows .mixedOrders=true)
  (hok:((l0.all fun o=>dstOK nt o&&o.guard.isNone)&&regOK l0.toArray&&vT (bf l0 []) l0.dropLast.length)=true) (n:Nat) (hn:n=l0.dropLast.length)
  (h:∀ Qc:Exit→AS→Prop,(∀c σ,Qc (.panic c) σ→Q (.panic c) σ)→(∀σ,(∀K',(∀σ,Q .normal σ→K' σ)→Ch P ⟨w0,S0,M,nt⟩ #[] ko K' none [o] σ)→Qc .normal σ)→∀ a w,St ⟨w0,S0,M,nt⟩ σ a w→∃ S:World→Prop,wpAnyH P .any l0.dropLast.toArray (eH ⟨w0,S0,M,nt⟩ Qc) S n (Array.replicate n false) a w):AC P ⟨w0,S0,M,nt⟩ (.region id l0.toArray true) Q σ:=by
 subst hn;generalize l0.dropLast=l at*;subst hl;simp only[Bool.and_eq_true]at hok;obtain⟨⟨hok,hreg⟩,hla⟩:=hok;have h1:∀ p∈l++[o],dstOK nt p=true:=fun p hp=>by have:=List.all_eq_true.1 hok p hp;rw[Bool.and_eq_true]at this;exact this.1
 have h2:∀ p∈l++[o],p.guard=none:=fun p hp=>by have:=List.all_eq_true.1 hok p hp;rw[Bool.and_eq_true]at this;simpa using this.2
 intro a w hs;refine wp_region_any hm ?_;obtain⟨β,hi⟩:=hs;have hx:bg w {w with drawn:=w.drawn+1 }:=⟨rfl,rfl,rfl,Nat.le_refl _,fun _ _=>rfl⟩
 have hnone:∀ i,¬lst (Array.replicate l.length false) i:=fun i=>by
  simp only[lst,Array.getD_eq_getD_getElem?,Array.getElem?_replicate];split<;>simp
 have hstart:Closed l.toArray (lst (Array.replicate l.length false)):=fun k o _ h=>absurd h (hnone k);obtain⟨S,hany⟩:=h (fun e σ=>match e with
   | .normal=>∀ K',(∀σ,Q .normal σ→K' σ)→Ch P ⟨w0,S0,M,nt⟩ #[] ko K' none [o] σ
   | e=>Q e σ) (fun c σ h=>h) (fun σ h=>h) a _ ⟨β,hi.ext hx⟩
 have hlast:=qw (P:=P) (Q:=eH ⟨w0,S0,M,nt⟩ Q) (l:=l) (o:=o) (h2 o (by simp)) (fun p hp=>h2 p (List.mem_append_left _ hp)) (fun j hj=>by
  have:=List.all_eq_true.1 hla j (List.mem_range.2 hj);exact this) (fun i p hp e he hb=>(regOK.out hreg).edge i p (by simpa using hp) e he hb) l.length (Array.replicate l.length false) a {w with drawn:=w.drawn+1 } (by simp) hstart ?_
 ·have e:(Array.replicate l.length false).push false=Array.replicate (l++[o]).toArray.size false:=by
   apply Array.toList_inj.1;simp[List.replicate_succ']
  rw[e]at hlast;simpa using hlast
 ·refine me (fun e a w he=>?_) _ _ _ _ (wpAny_of_held _ _ _ _ hany);cases e with
  | normal=>
    obtain⟨σ,q1,q2⟩:=he;have:=(q1 _ fun _ h=>h).seq (Q:=fun e σ=>Q e σ) (fun p hp=>by
     have:p=o:=by simpa using hp
     subst this;exact h1 p (by simp)) a w q2
    unfold wpList at this;rw[if_pos (gA (h2 o (by simp)) _)]at this;exact this
  | _=>exact he
end
section
variable {P:Program}{C:Cx}{σ:AS}
theorem Inv.kr{β:Nat→Value}{a:Act}{w:World}(h:Inv C σ β a w){i j:Nat}{x:Value}{R:(Nat→Prop)→World→Prop}(hO:af σ.objs i=some (.own x R))(hj:af σ.objs j=some .dead):Inv C ⟨σ.env,(j,.own x R)::(i,.dead)::σ.objs⟩ (ao (ao β i undef) j x) a w:=by
 have hne:i≠j:=fun e=>by rw[e,hj]at hO;cases hO
 obtain⟨hx,hR,hst⟩:=h.obj i _ hO;have hg:∀ n o',af ((j,AO.own x R)::(i,AO.dead)::σ.objs) n=some o'→(n=j∧o'= .own x R)∨(n=i∧o'= .dead)∨(n≠j∧n≠i∧af σ.objs n=some o'):=fun n o' hn=>by
  rw[ai]at hn;by_cases e1:j=n
  ·rw[if_pos e1]at hn;injection hn with hn;exact .inl ⟨e1.symm,hn.symm⟩
  ·rw[if_neg e1,ai]at hn;by_cases e2:i=n
   ·rw[if_pos e2]at hn;injection hn with hn;exact .inr (.inl ⟨e2.symm,hn.symm⟩)
   ·rw[if_neg e2]at hn;exact .inr (.inr ⟨Ne.symm e1,Ne.symm e2,hn⟩)
 have hbj:ao (ao β i undef) j x j=x:=by simp[ao]
 have hbi:ao (ao β i undef) j x i=undef:=by simp[ao,hne]
 have hbo:∀ n,n≠j→n≠i→ao (ao β i undef) j x n=β n:=fun n h1 h2=>by simp[ao,h1,h2]
 have hD:∀ b,Dat C β σ.objs w b→Dat C (ao (ao β i undef) j x) ((j,.own x R)::(i,.dead)::σ.objs) w b∧w.heap[b]?=w.heap[b]?:=fun b hb=>⟨⟨hb.1,hb.2.1,fun n o' hn=>by
  rcases hg n o' hn with ⟨rfl,_⟩ | ⟨rfl,_⟩ | ⟨e1,e2,hn⟩
  ·rw[hbj,←hx];exact hb.2.2 i _ hO
  ·rw[hbi];intro e;cases e
  ·rw[hbo n e1 e2];exact hb.2.2 n o' hn⟩,rfl⟩
 have hA:∀ {u:Value} {v:AV},RA (Dat C β σ.objs w) w β σ.objs u v→RA (Dat C (ao (ao β i undef) j x) ((j,.own x R)::(i,.dead)::σ.objs) w) w (ao (ao β i undef) j x) ((j,.own x R)::(i,.dead)::σ.objs) u v:=fun {u v} h=>by
  refine h.keep hD (fun n T cs hn=>?_) (fun n g e' k' xs' hn=>?_)
  ·rcases hg n _ hn with ⟨_,e⟩ | ⟨_,e⟩ | ⟨e1,e2,hn⟩
   ·cases e
   ·cases e
   ·exact⟨⟨T,cs,hn⟩,hbo n e1 e2⟩
  ·rcases hg n _ hn with ⟨_,e⟩ | ⟨_,e⟩ | ⟨e1,e2,hn⟩
   ·cases e
   ·cases e
   ·exact⟨g,e',k',xs',hn,Nat.le_refl _,fun _=>⟨rfl,hbo n e1 e2⟩⟩
 have hown:∀ n o' b,af ((j,AO.own x R)::(i,AO.dead)::σ.objs) n=some o'→aQ (ao (ao β i undef) j x n)=some b→(n=j∧aQ (β i)=some b)∨(n≠j∧n≠i∧af σ.objs n=some o'∧aQ (β n)=some b):=fun n o' b hn hb=>by
  rcases hg n o' hn with ⟨rfl,_⟩ | ⟨rfl,_⟩ | ⟨e1,e2,hn⟩
  ·rw[hbj,←hx]at hb;exact .inl ⟨rfl,hb⟩
  ·rw[hbi]at hb;cases hb
  ·rw[hbo n e1 e2]at hb;exact .inr ⟨e1,e2,hn,hb⟩
 refine⟨h.defs,h.nt,h.os,h.tape,h.output,h.size,h.fr,fun t v ht=>?_,fun n o' hn=>?_,fun n m oi oj b hn hm q1 q2=>?_,fun n oi b hn q=>?_,fun n y o' q1 q2 q3=>?_⟩
 ·obtain⟨u,h1,h2⟩:=h.env t v ht;exact⟨u,h1,hA h2⟩
 ·rcases hg n o' hn with ⟨rfl,rfl⟩ | ⟨rfl,rfl⟩ | ⟨e1,e2,hn⟩
  ·exact⟨hbj,hst _ _ _ _ hR hD fun _ _=>rfl,hst⟩
  ·trivial
  ·have h1:=h.obj n o' hn;cases o' with
   | box T2 cs2=>
     obtain⟨b2,us2,q1,q2,q3,q4,q5⟩:=h1;exact⟨b2,us2,by rw[hbo n e1 e2];exact q1,q2,q3,q4,fun j hj hj'=>hA (q5 j hj hj')⟩
   | row g e2' k2 xs2=>
     obtain⟨css2,q1,q2,q3,q4⟩:=h1;exact⟨css2,q1,fun j hj hj'=>(q2 j hj hj').keep hD,q3,by rw[hbo n e1 e2];exact q4⟩
   | dead=>trivial
   | own y R=>exact⟨by rw[hbo n e1 e2];exact h1.1,h1.2.2 _ _ _ _ h1.2.1 hD fun _ _=>rfl,h1.2.2⟩
 ·rcases hown n oi b hn q1 with ⟨rfl,p1⟩ | ⟨e1,e2,hn',p1⟩
  ·rcases hown m oj b hm q2 with ⟨rfl,p2⟩ | ⟨e3,e4,hm',p2⟩
   ·rfl
   ·exact absurd (h.dis _ _ _ _ b hm' hO p2 p1) e4
  ·rcases hown m oj b hm q2 with ⟨rfl,p2⟩ | ⟨e3,e4,hm',p2⟩
   ·exact absurd (h.dis _ _ _ _ b hn' hO p1 p2) e2
   ·exact h.dis _ _ _ _ b hn' hm' p1 p2
 ·rcases hown n oi b hn q with ⟨rfl,p1⟩ | ⟨e1,e2,hn',p1⟩
  ·exact h.own i _ b hO p1
  ·exact h.own n oi b hn' p1
 ·rcases hg _ o' q2 with ⟨_,rfl⟩ | ⟨_,rfl⟩ | ⟨e1,e2,hn⟩
  ·cases q3
  ·cases q3
  ·rw[hbo _ e1 e2];exact h.pin n y o' q1 hn q3
theorem AC.kr{c:Code}{Q:Exit→AS→Prop}(i j:Nat){x:Value}{R:(Nat→Prop)→World→Prop}(hO:af σ.objs i=some (.own x R))(hj:af σ.objs j=some .dead)(h:AC P C c Q ⟨σ.env,(j,.own x R)::(i,.dead)::σ.objs⟩):AC P C c Q σ:= .weak _ (fun _ _ ⟨_,hi⟩=>⟨_,hi.kr hO hj⟩) h
theorem Ch.kr{ops:Array Oper}{fin:List Inf→Prop}{Q:AS→Prop}{rest:List Oper}(i j:Nat){x:Value}{R:(Nat→Prop)→World→Prop}(hO:af σ.objs i=some (.own x R))(hj:af σ.objs j=some .dead)(h:Ch P C ops fin Q none rest ⟨σ.env,(j,.own x R)::(i,.dead)::σ.objs⟩):Ch P C ops fin Q none rest σ:= .weak _ (fun _ _ ⟨_,hi⟩=>⟨_,hi.kr hO hj⟩) h
theorem Ch.sub{ops:Array Oper}{fin:List Inf→Prop}{Q:AS→Prop}{rest:List Oper}(σ':AS)(he:subEnv σ.env σ'.env)(ho:subObj σ.objs σ'.objs)(h:Ch P C ops fin Q none rest σ'):Ch P C ops fin Q none rest σ:= .weak _ (fun _ _ hs=>hs.sub he ho) h
end
section
variable {P:Program}{C:Cx}{o:Oper}{σ:AS}{ρ:Operand→Value}{w:World}
theorem re{x:Operand}{v:Value}(ho:o.op= .move x)(h:ρ x=v):(execOp ρ o).run P w= .ok (.value v) w:=by unfold execOp;rw[ho];simp[h]
theorem jo{T f:Nat}{x:Operand}{b p fo:Nat}(ho:o.op= .fieldAddr T x f)(h:ρ x=aT b p)[hF:Fl P T f fo]:(execOp ρ o).run P w= .ok (.value (aT b (p+fo))) w:=by unfold execOp;rw[ho];simp[h,iw hF]
theorem rl{T:TypeId}{x:Operand}{b p m:Nat}{v:Value}(ho:o.op= .load T x)(h:ρ x=aT b p)[hS:Sz P T false m](hc:w.cell? ⟨b,p,none⟩=some v):(execOp ρ o).run P w= .ok (.value v) w:=by
 obtain⟨td,hd1,hd2⟩:=hS.u;unfold execOp;rw[ho];simp[h,dE hd1 hd2 b p v w hc]
theorem Do.bR{T Kt Et:TypeId}{m x y:Operand}{b n id:Nat}{M:DataW Unit}{kv:Value}{kl:Lit}{c:Int}(ho:o.op= .insert T m x y)(hm:ev σ m= .d (.v (.map (some b))))(hO:af σ.objs id=some (mr P Kt Et b n M))(hx:ev σ x= .d (.v kv))(hy:ev σ y= .d (.v (.int .i64 c)))
  (hT:P.underlying T=some (.map Kt Et)) (hE:P.underlying Et=some (.int .i64)) (hk:Go.Maps.Keyed P Kt) (hkey:keyOf P Kt kv=some kl) (hn:n≤1000000000) (hw:(Lit.int .i64 c).wf=true) (hd:o.dst=none):
  Do P C o σ .un ⟨[id],[],[(id,mr P Kt Et b (n+1) (M.put kl (.lit (.int .i64 c))))],none⟩:=by
 intro σ' hl hdst a w K Q' ⟨β,hi⟩ hK;have h1:=hl.ra hi (x:=m) (by rw[ho];simp[Op.operands]);have h2:=hl.ra hi (x:=x) (by rw[ho];simp[Op.operands]);have h3:=hl.ra hi (x:=y) (by rw[ho];simp[Op.operands]);rw[hm]at h1;rw[hx]at h2;rw[hy]at h3;have e1:=RA.val h1;have e2:=RA.val h2;have e4:=RA.val h3;have hO':af σ'.objs id=some (mr P Kt Et b n M):=by rw[hl.rd id (by simp)];exact hO
 obtain⟨hb,hown,_⟩:=hi.obj id _ hO';have hown:w.ownsMap P Kt (plainElem P Et) b n M:=hown;obtain⟨w',hrun,hown',hgr⟩:=hown.update hk hT (by unfold maxLen;omega) (val:= .int .i64 c) hkey (plainElem_int hE hw);unfold Oper.wp;have hr:(execOp a.eval o).run P w= .ok .skip w':=by
  unfold execOp;rw[ho];simp[e1,e2,e4,hrun]
 rw[hr];refine hK _ _ ⟨ao β id (.map (some b)),?_⟩;have:=hi.di id _ (mr P Kt Et b (n+1) (M.put kl (.lit (.int .i64 c)))) hO' (.map (some b)) hgr.os hgr.tape hgr.output hgr.size (fun k hk hne=>hgr.block k hk fun e=>hne (by rw[hb,e];rfl)) (fun k hk2=>by
  cases hk2;exact⟨.inl (by rw[hb];rfl),Nat.lt_of_lt_of_le hown.lt hgr.size⟩) trivial fun _ _=>⟨by simp[ao],hown',pa _ _ _ _ _ _⟩
 rw[hd];exact this
theorem Ch.conv{ops:Array Oper}{fin:List Inf→Prop}{Q:AS→Prop}{rest:List Oper}(id:Nat){x:Value}{e:TypeId}{k:Nat}{xs:List (List D)}(ys:List (List D))(hO:af σ.objs id=some (gF x e k xs))(hR:∀ S w,kU x e k xs S w→kU x e k ys S w)(h:Ch P C ops fin Q none rest ⟨σ.env,(id,gF x e k ys)::σ.objs⟩):Ch P C ops fin Q none rest σ:=
 .weak _ (fun a w ⟨β,hi⟩=>by
  obtain⟨hx,h1,_⟩:=hi.obj id _ hO;have h2:=hi.rv id _ hO (kU x e k ys) (hR _ _ h1) (by rw[hx];exact jJ _ _ _ _);rw[hx]at h2;exact⟨β,h2⟩) h
theorem St.dF{a:Act}{id b p:Nat}{T:TypeId}{cs:List D}{v:Value}(hs:St C σ a w)(hO:af σ.objs id=some (bL b T cs))(hv:cs[p]?=some (.v v)):w.cell? ⟨b,p,none⟩=some v:=by
 obtain⟨β,hi⟩:=hs;obtain⟨_,⟨us,h1,h2⟩,_⟩:=hi.obj id _ hO;obtain⟨u,h3,h4⟩:=h2.at hv;have h4:RD _ w u (.v v):=h4;cases h4;obtain⟨hlt,he⟩:=List.getElem?_eq_some_iff.1 h3;simp[World.cell?,h1,hlt,he]
end
theorem St.of{C:Cx}{σ:AS}{β:Nat→Value}{a:Act}{w:World}(h:Inv C σ β a w):St C σ a w:=⟨β,h⟩
section
variable {P:Program}{C:Cx}{σ:AS}{ops:Array Oper}{S:World→Prop}{Qc:Exit→AS→Prop}
def FZ(P:Program)(C:Cx)(o:Oper)(σ:AS)(V:AS→Prop):Prop:=∀ a w (K:Act→World→Prop) (Q':Exit→Act→World→Prop),St C σ a w→(∀σ' a' w',V σ'→St C σ' a' w'→K a' w')→o.wp P a w K Q'
end
def D.nv:D→D
 | .n=> .v (.slice none 0 0)
 | d=>d
theorem RD.nv{S:Nat→Prop}{w:World}{u:Value}{d:D}(h:RD S w u d):RD S w u (D.nv d):=by
 cases h with
 | v h=>exact .v h
 | n=>exact .v rfl
 | l k us hn hc hm hk ha he=>exact .l k us hn hc hm hk ha he
