import Derived.Test.YtbbpecfapohlaaaGreatDoorPfB
import Derived.Test.YtbbpecfapohlaaaGreatDoorSmB
import Derived.Test.YtbbpecfapohlaaaGreatDoorFkC
namespace Go.Proofs.YtbbpecfapohlaaaGreatDoor
open Go.RowKit
attribute [local irreducible] AC Do St
noncomputable def w22a:At:=⟨⟨[(0,((1:Int):Rat))],((-1:Int):Rat)⟩,1⟩
noncomputable def w22b:At:=⟨⟨[(0,((-1:Int):Rat))],((2:Int):Rat)⟩,1⟩
noncomputable def w22P:SP:=⟨1,0,[w22a,w22b],[[1],[2]]⟩
noncomputable def w22S:List Stp:=[⟨1,[1],0,[],[]⟩,⟨1,[2],1,[],[]⟩,⟨2,[-1,-2],0,[],[((1:Int):Rat),((1:Int):Rat)]⟩,⟨3,[],0,[2,0,1],[]⟩]
theorem one_form{v:Int}{q:Rat}(h:q≠0):Form [(v,q)]:=⟨List.pairwise_singleton _ _,fun t ht=>by rw[List.mem_singleton.1 ht];exact h⟩
theorem w22_a:subE ⟨[((0:Int),(1:Rat))],0⟩ ⟨[],((1:Int):Rat)⟩=w22a.e:=by
 have e1:(subE ⟨[((0:Int),(1:Rat))],0⟩ ⟨[],((1:Int):Rat)⟩).t=w22a.e.t:=by
  refine form_inj (canL_spec _).1 (one_form (by decide)) fun v=>?_;show coef (canL ([((0:Int),(1:Rat))]++canL [])) v=_;rw[(canL_spec _).2.1,canL_form ⟨.nil,by simp⟩];rfl
 have e2:(subE ⟨[((0:Int),(1:Rat))],0⟩ ⟨[],((1:Int):Rat)⟩).c=w22a.e.c:=by
  show (0:Rat)+ -1*((1:Int):Rat)=((-1:Int):Rat)
  decide+kernel
 generalize subE ⟨[((0:Int),(1:Rat))],0⟩ ⟨[],((1:Int):Rat)⟩=x at e1 e2;obtain⟨t,c⟩:=x;dsimp only at e1 e2;rw[e1,e2]
theorem w22_b:subE ⟨[],((2:Int):Rat)⟩ ⟨[((0:Int),(1:Rat))],0⟩=w22b.e:=by
 have e0:([((0:Int),(1:Rat))].map (mulT (-1)))=[(0,((-1:Int):Rat))]:=by
  show [((0:Int),-1*(1:Rat))]=_;rw[Rat.mul_one];rfl
 have e1:(subE ⟨[],((2:Int):Rat)⟩ ⟨[((0:Int),(1:Rat))],0⟩).t=w22b.e.t:=by
  refine form_inj (canL_spec _).1 (one_form (by decide)) fun v=>?_;show coef (canL ([]++canL ([((0:Int),(1:Rat))].map (mulT (-1))))) v=_;rw[e0,List.nil_append,(canL_spec _).2.1,(canL_spec _).2.1];rfl
 have e2:(subE ⟨[],((2:Int):Rat)⟩ ⟨[((0:Int),(1:Rat))],0⟩).c=w22b.e.c:=by
  show ((2:Int):Rat)+ -1*0=((2:Int):Rat)
  decide+kernel
 generalize subE ⟨[],((2:Int):Rat)⟩ ⟨[((0:Int),(1:Rat))],0⟩=x at e1 e2;obtain⟨t,c⟩:=x;dsimp only at e1 e2;rw[e1,e2]
theorem one_can{c k:Rat}(hc:c=1∨c= -1):canL (⟨⟨[(0,c)],k⟩,1⟩:At).e.t=[(0,c)]∧canA ⟨⟨[(0,c)],k⟩,1⟩ c=⟨⟨[(0,c)],k⟩,1⟩:=by
 have hne:c≠0:=by rcases hc with rfl | rfl<;>decide
 have h1:canL (⟨⟨[(0,c)],k⟩,1⟩:At).e.t=[(0,c)]:=canL_form (one_form hne);have hb:byQ 1 c=1:=by
  unfold byQ;rw[if_neg (by decide)];rcases hc with rfl | rfl
  ·rw[absR_eq (by decide)];decide+kernel
  ·unfold absR;decide+kernel
 refine⟨h1,at_eq ?_ ?_ rfl⟩
 ·rw[canA_t _ hne,h1];show [(0,byQ 1 c*c)]=[(0,c)]
  rw[hb,Rat.one_mul]
 ·rw[canA_c];show byQ 1 c*k=k;rw[hb,Rat.one_mul]
theorem one_ok{c k:Rat}(hc:c=1∨c= -1)(hk:Bd 6682 k):OkAt ⟨⟨[(0,c)],k⟩,1⟩:=by
 have hb:Bd 1 c:=by rcases hc with rfl | rfl<;>exact⟨by decide,by decide⟩
 have hs:Sm 12 6682 (⟨[(0,c)],k⟩:Ex):=⟨hk,fun t ht=>by
  rw[List.mem_singleton.1 ht];exact hb.mono (by omega),by show 1≤12;decide⟩
 refine⟨hs,fun t ht=>?_,fun v d l h _=>?_⟩
 ·rw[List.mem_singleton.1 ht];exact⟨by show (-9223372036854775808:Int)≤0;decide,by show (0:Int)≤9223372036854775807;decide⟩
 ·rw[(one_can hc).1]at h;simp only[List.cons.injEq,Prod.mk.injEq]at h;obtain⟨⟨_,rfl⟩,_⟩:=h;rw[(one_can hc).2];exact⟨hs,hb.mono (by omega)⟩
theorem w22a_ok:OkAt w22a:=one_ok (.inl rfl) (bz_bd (by decide+kernel))
theorem w22b_ok:OkAt w22b:=one_ok (.inr rfl) (bz_bd (by decide+kernel))
theorem w22P_ok:OkSP w22P:=⟨fun a ha=>by
  have:a=w22a∨a=w22b:=by simpa[w22P] using ha
  rcases this with rfl | rfl
  ·exact w22a_ok
  ·exact w22b_ok,by decide,by decide,fun c hc=>by
  have:c=[1]∨c=[2]:=by simpa[w22P] using hc
  rcases this with rfl | rfl
  ·exact⟨by decide,fun l hl=>by rw[List.mem_singleton.1 hl];exact⟨by decide,by decide⟩⟩
  ·exact⟨by decide,fun l hl=>by rw[List.mem_singleton.1 hl];exact⟨by decide,by decide⟩⟩,⟨by decide,by decide⟩,⟨by decide,by decide⟩⟩
theorem w22_ne:¬ SameP w22a w22b:=fun h=>by
 have h1:=(same_can (one_can (c:=((1:Int):Rat)) (k:=((-1:Int):Rat)) (.inl rfl)).1 (one_can (c:=((-1:Int):Rat)) (k:=((2:Int):Rat)) (.inr rfl)).1).1 h;have g1:=(one_can (c:=((1:Int):Rat)) (k:=((-1:Int):Rat)) (.inl rfl)).2;have g2:=(one_can (c:=((-1:Int):Rat)) (k:=((2:Int):Rat)) (.inr rfl)).2;have h1:=g1.symm.trans (h1.trans g2);have h2:((-1:Int):Rat)=((2:Int):Rat):=congrArg (fun a:At=>a.e.c) h1;exact absurd h2 (by decide)
theorem w22_chk:chkP w22P=0:=by
 refine chkP_ok ?_ (by decide) ⟨(goodA_iff w22P_ok).2 fun i hi=>?_,fun c hc=>?_⟩
 ·rintro (h | h | h | h | ⟨c,h,h1⟩)
  ·exact absurd h (by decide)
  ·exact absurd h (by decide)
  ·exact absurd h (by decide)
  ·exact absurd h (by decide)
  ·have:c=[1]∨c=[2]:=by simpa[w22P] using h
   rcases this with rfl | rfl<;>exact absurd h1 (by decide)
 ·have h0:i=0∨i=1:=by
   have:i<2:=hi;omega
  rcases h0 with rfl | rfl
  ·refine⟨(canP_one w22a).1 ⟨⟨by decide,by decide⟩,0,_,[],(one_can (.inl rfl)).1,(one_can (.inl rfl)).2⟩,fun t ht=>?_,fun j hj=>by omega⟩;have ht':t∈[((0:Int),((1:Int):Rat))]:=ht;rw[List.mem_singleton.1 ht'];exact⟨by decide,by decide⟩
  ·refine⟨(canP_one w22b).1 ⟨⟨by decide,by decide⟩,0,_,[],(one_can (.inr rfl)).1,(one_can (.inr rfl)).2⟩,fun t ht=>?_,fun j hj=>?_⟩
   ·have ht':t∈[((0:Int),((-1:Int):Rat))]:=ht;rw[List.mem_singleton.1 ht'];exact⟨by decide,by decide⟩
   ·have h0:j=0:=by omega
    subst h0;exact w22_ne
 ·have:c=[1]∨c=[2]:=by simpa[w22P] using hc
  rcases this with rfl | rfl
  ·exact⟨by decide,by decide,by decide⟩
  ·exact⟨by decide,by decide,by decide⟩
theorem w22_opp:oppN w22P [-1,-2] 2=some [w22a,w22b]:=rfl
theorem w22_th:fkI [w22a,w22b] [((1:Int):Rat),((1:Int):Rat)]=0∧rfuQ [w22a,w22b] [((1:Int):Rat),((1:Int):Rat)]:=by
 refine⟨?_,fun v=>?_,.inl ?_⟩
 ·unfold fkI;rw[if_neg (by decide)];exact if_neg (by decide+kernel)
 ·show (0:Rat)+((1:Int):Rat)*coef [(0,((1:Int):Rat))] v+((1:Int):Rat)*coef [(0,((-1:Int):Rat))] v=0;by_cases h:0=v
  ·subst h;decide+kernel
  ·rw[coef_none (by simpa using h),coef_none (by simpa using h)];decide+kernel
 ·show 0<sgnR ((0:Rat)+((1:Int):Rat)*((-1:Int):Rat)+((1:Int):Rat)*((2:Int):Rat));decide+kernel
theorem w22_use(s:Stp)(h:s∈w22S):useP s:=by
 have:s=⟨1,[1],0,[],[]⟩∨s=⟨1,[2],1,[],[]⟩∨s=⟨2,[-1,-2],0,[],[((1:Int):Rat),((1:Int):Rat)]⟩∨s=⟨3,[],0,[2,0,1],[]⟩:=by simpa[w22S] using h
 rcases this with rfl | rfl | rfl | rfl
 ·exact .inl ⟨rfl,rfl,rfl⟩
 ·exact .inl ⟨rfl,rfl,rfl⟩
 ·exact .inr (.inl ⟨rfl,rfl,rfl⟩)
 ·exact .inr (.inr ⟨rfl,rfl,rfl⟩)
noncomputable def w22s2:Stp:=⟨2,[-1,-2],0,[],[((1:Int):Rat),((1:Int):Rat)]⟩
theorem w22_w0:wroP w22P [] ⟨1,[1],0,[],[]⟩=0:=wro_ok ⟨by decide,by decide,by decide,w22_use _ (by simp[w22S])⟩ (.inl ⟨rfl,by decide,rfl⟩)
theorem w22_w1:wroP w22P [⟨1,[1],0,[],[]⟩] ⟨1,[2],1,[],[]⟩=0:=wro_ok ⟨by decide,by decide,by decide,w22_use _ (by simp[w22S])⟩ (.inl ⟨rfl,by decide,rfl⟩)
theorem w22_w2:wroP w22P [⟨1,[1],0,[],[]⟩,⟨1,[2],1,[],[]⟩] w22s2=0:=wro_ok ⟨by decide,by decide,by decide,w22_use _ (by simp[w22S,w22s2])⟩ (.inr (.inl ⟨rfl,_,w22_opp,w22_th⟩))
theorem w22_w3:wroP w22P [⟨1,[1],0,[],[]⟩,⟨1,[2],1,[],[]⟩,w22s2] ⟨3,[],0,[2,0,1],[]⟩=0:=wro_ok ⟨by decide,by decide,by decide,w22_use _ (by simp[w22S])⟩ (.inr (.inr ⟨rfl,by decide,by decide,by decide⟩))
theorem w22_wro:∀ i (h:i<w22S.length),wroP w22P (w22S.take i) w22S[i]=0:=fun i h=>by
 have h4:i<4:=h;have hi:i=0∨i=1∨i=2∨i=3:=by omega
 rcases hi with rfl | rfl | rfl | rfl
 ·exact w22_w0
 ·exact w22_w1
 ·exact w22_w2
 ·exact w22_w3
instance decInR (l:Int):Decidable (inR l):=inferInstanceAs (Decidable (_∧_))
theorem w22_sto:∀ s∈w22S,StO s:=fun s h=>by
 have:s=⟨1,[1],0,[],[]⟩∨s=⟨1,[2],1,[],[]⟩∨s=⟨2,[-1,-2],0,[],[((1:Int):Rat),((1:Int):Rat)]⟩∨s=⟨3,[],0,[2,0,1],[]⟩:=by simpa[w22S] using h
 have h1:Bd 256 ((1:Int):Rat):=bz_bd (by decide+kernel);rcases this with rfl | rfl | rfl | rfl
 ·exact⟨by decide,by decide,by decide,by decide,by decide,by decide,by decide,fun t ht=>(by cases ht)⟩
 ·exact⟨by decide,by decide,by decide,by decide,by decide,by decide,by decide,fun t ht=>(by cases ht)⟩
 ·refine⟨by decide,by decide,by decide,by decide,by decide,by decide,by decide,fun t ht=>?_⟩;have:t=((1:Int):Rat):=by simpa using ht
  rw[this];exact h1
 ·exact⟨by decide,by decide,by decide,by decide,by decide,by decide,by decide,fun t ht=>(by cases ht)⟩
theorem w22_all:FolR w22P w22S 0 0∧CheR w22S 0 0 0 0:=⟨.inr (.inl ⟨w22_chk,rfl,rfl,w22_wro⟩),.inr (.inr ⟨rfl,⟨_,rfl,rfl⟩,rfl,rfl⟩)⟩
theorem w22_cut:FolR w22P (w22S.take 3) 0 0∧CheR (w22S.take 3) 0 0 3 7:=by
 refine⟨.inr (.inl ⟨w22_chk,rfl,rfl,fun i h=>?_⟩),.inr (.inl ⟨rfl,.inr ⟨_,rfl,by decide⟩,rfl,rfl⟩)⟩;have h3:i<3:=h;have:=w22_wro i (by show i<4;omega);have e1:(w22S.take 3).take i=w22S.take i:=by rw[List.take_take,Nat.min_eq_left (by omega)]
 have e2:(w22S.take 3)[i]=w22S[i]'(by show i<4;omega):=List.getElem_take;rw[e1];exact(congrArg (wroP w22P (w22S.take i)) e2).trans this
theorem evalT_app(p:List Rat):∀ l m:List Tm,evalT p (l++m)=evalT p l+evalT p m
 | [],m=>by rw[List.nil_append,evalT,Rat.zero_add]
 | t::l,m=>by rw[List.cons_append,evalT,evalT,evalT_app p l m,Rat.add_assoc]
noncomputable def vaQ (L:List At)(T:List Rat)(p:List Rat)(i:Nat):Rat:=(sumN L T i).c+evalT p (sumN L T i).t
theorem vaQ_s{L:List At}{T:List Rat}(p:List Rat){i:Nat}(h1:i<L.length)(h2:i<T.length):vaQ L T p (i+1)=vaQ L T p i+T[i]*(L[i].e.c+evalT p L[i].e.t):=by
 unfold vaQ;rw[sumN_s h1 h2];generalize sumN L T i=s;generalize L[i].e=e;generalize T[i]=t;show s.c+t*e.c+evalT p (canL (s.t++canL (e.t.map (mulT t))))=_;have e1:evalT p (canL (s.t++canL (e.t.map (mulT t))))=evalT p s.t+evalT p (canL (e.t.map (mulT t))):=by
  rw[←evalT_app];exact eval_same p (canL_spec _).2.1
 have e2:evalT p (canL (e.t.map (mulT t)))=t*evalT p e.t:=eval_scale p fun v=>by
  rw[(canL_spec _).2.1];show coef (e.t.map fun u=>(u.1,t*u.2)) v=_;rw[coef_map]
 rw[e1,e2];grind
theorem sgn_pos{q:Rat}:0<sgnR q↔0<q:=by
 have h:=sgnR_le (q:=q);constructor
 ·intro h1;have:¬ q≤0:=fun h2=>absurd (h.2 h2) (by omega);grind
 ·intro h1;have:¬ sgnR q≤0:=fun h2=>by have:=h.1 h2;grind
  omega
theorem mul_np{t x:Rat}(ht:0≤t)(hx:x≤0):t*x≤0:=by
 have h:=Rat.mul_nonneg ht (show 0≤ -x by grind);grind
theorem mul_nn{t x:Rat}(ht:0<t)(hx:x<0):t*x<0:=(Rat.mul_neg_iff_of_pos_left ht).2 hx
theorem vaQ_le{L:List At}{T:List Rat}(hl:L.length=T.length)(hb:bdQ L T L.length=false)(ho:∀ a∈L,okOp a.op)(p:List Rat)(hp:∀ a∈L,atP a p=true):∀ i,i≤L.length→vaQ L T p i≤0∧(stQ L T i=true→vaQ L T p i<0)
 | 0,_=>by
   have e:vaQ L T p 0=0:=by
    unfold vaQ sumN;show (0:Rat)+0=0;rw[Rat.add_zero]
   rw[e];exact⟨Rat.le_refl,fun h=>by cases h⟩
 | i+1,hi=>by
   obtain⟨ih1,ih2⟩:=vaQ_le hl hb ho p hp i (by omega);have h1:i<L.length:=by omega
   have h2:i<T.length:=by omega
   have hbi:bdQ L T (i+1)=false:=by
    cases e:bdQ L T (i+1)with
    | false=>rfl
    | true=>rw[bdQ_up e L.length hi]at hb;cases hb
   rw[bdQ_s h1 h2,Bool.or_eq_false_iff]at hbi;have hbi:=of_decide_eq_false hbi.2;have hoi:=ho _ (List.getElem_mem h1);have hpi:=hp _ (List.getElem_mem h1);rw[vaQ_s p h1 h2,stQ_s h1 h2];generalize vaQ L T p i=V at ih1 ih2 ⊢;generalize stQ L T i=st at ih2 ⊢;generalize L[i]=a at hbi hoi hpi ⊢;generalize T[i]=t at hbi ⊢;unfold atP at hpi;generalize a.e.c+evalT p a.e.t=x at hpi ⊢;have hst:(st||decide (a.op=2∧0<sgnR t))=true→st=true∨(a.op=2∧0<sgnR t):=fun h=>by
    rcases Bool.or_eq_true_iff.1 h with h | h
    ·exact .inl h
    ·exact .inr (of_decide_eq_true h)
   have ht:a.op≠3→0≤t:=fun h3=>by
    have:¬ t<0:=fun h4=>hbi ⟨h3,sgnR_neg.2 h4⟩;grind
   rcases okOp_cases hoi with e | e | e
   ·rw[e,sayB_1]at hpi;have hx:=of_decide_eq_true hpi;have:=mul_np (ht (by omega)) hx;refine⟨by grind,fun h=>?_⟩;rcases hst h with h | h
    ·have:=ih2 h;grind
    ·omega
   ·have hx:x<0:=by
     rw[e]at hpi;exact sgnR_neg.1 (of_decide_eq_true hpi)
    have:=mul_np (ht (by omega)) (Rat.le_of_lt hx);refine⟨by grind,fun h=>?_⟩;rcases hst h with h | h
    ·have:=ih2 h;grind
    ·have:=mul_nn (sgn_pos.1 h.2) hx;grind
   ·have hx:x=0:=by
     rw[e]at hpi;exact sgnR_zero.1 (of_decide_eq_true hpi)
    rw[hx,Rat.mul_zero,Rat.add_zero];refine⟨ih1,fun h=>?_⟩;rcases hst h with h | h
    ·exact ih2 h
    ·omega
theorem fk_sound{L:List At}{T:List Rat}(hl:L.length=T.length)(hb:bdQ L T L.length=false)(hr:rfuQ L T)(ho:∀ a∈L,okOp a.op)(p:List Rat)(hp:∀ a∈L,atP a p=true):False:=by
 obtain⟨h1,h2⟩:=vaQ_le hl hb ho p hp L.length (Nat.le_refl _);obtain⟨h3,h4⟩:=hr;have e:vaQ L T p L.length=coQ L T L.length:=by
  unfold vaQ;rw[(sumN_nil L T L.length).2 h3,sumN_c];exact Rat.add_zero _
 rw[e]at h1 h2;rcases h4 with h4 | ⟨h4,h5⟩
 ·have:=sgn_pos.1 h4;grind
 ·have:=h2 h5;have:=sgnR_zero.1 h4;grind
theorem truB_at{p:SP}{l:Int}(h2:¬ szI l≤p.b){x:At}(e:p.a[(szI l-1-p.b).toNat]?=some x)(xs:List Rat)(bs:List Bool):truB p xs bs l=decide (atP x xs=decide (0<l)):=by
 unfold truB;rw[if_neg (by omega),e]
theorem oppP_true{p:SP}{l:Int}{a:At}(h:oppP p l=some a)(xs:List Rat)(bs:List Bool):atP a xs=!truB p xs bs l:=by
 unfold oppP at h;split at h
 ·cases h
 rename_i hn;have h0:l≠0:=fun e=>hn (.inl e);have h2:¬ szI l≤p.b:=fun e=>hn (.inr (.inr e));cases e:p.a[(szI l-1-p.b).toNat]? with
 | none=>rw[e]at h;cases h
 | some x=>
   rw[e]at h;rw[truB_at h2 e];dsimp only at h;by_cases h3:l<0
   ·rw[if_pos h3]at h;obtain rfl:=Option.some.inj h;rw[decide_eq_false (show ¬0<l by omega)];cases atP x xs<;>rfl
   ·rw[if_neg h3]at h;rw[decide_eq_true (show 0<l by omega)];have ev:∀ op,atP ⟨scaleE (-1) x.e,op⟩ xs=sayB op (-(x.e.c+evalT xs x.e.t)):=fun op=>by
     unfold atP scaleE;dsimp only;have e2:evalT xs (canL (x.e.t.map (mulT (-1))))= -1*evalT xs x.e.t:=eval_scale xs fun v=>by
      rw[(canL_spec _).2.1];show coef (x.e.t.map fun u=>(u.1,-1*u.2)) v=_;rw[coef_map]
     rw[e2]
     congr 1
     grind
    by_cases h4:x.op=1
    ·rw[if_pos h4]at h;obtain rfl:=Option.some.inj h;rw[ev];unfold atP;rw[h4,sayB_1];generalize x.e.c+evalT xs x.e.t=v;have:sayB 2 (-v)=decide (0<v):=by
      show decide (sgnR (-v)<0)=_;exact decide_eq_decide.2 (sgnR_neg.trans ⟨fun h=>by grind,fun h=>by grind⟩)
     rw[this];by_cases hv:v≤0
     ·rw[decide_eq_true hv,decide_eq_false (show ¬0<v by grind)];rfl
     ·rw[decide_eq_false hv,decide_eq_true (show 0<v by grind)];rfl
    ·rw[if_neg h4]at h;by_cases h5:x.op=2
     ·rw[if_pos h5]at h;obtain rfl:=Option.some.inj h;rw[ev,sayB_1];unfold atP;rw[h5];generalize x.e.c+evalT xs x.e.t=v;have:sayB 2 v=decide (v<0):=by
       show decide (sgnR v<0)=_;exact decide_eq_decide.2 sgnR_neg
      rw[this];by_cases hv:v<0
      ·rw[decide_eq_true hv,decide_eq_false (show ¬ -v≤0 by grind)];rfl
      ·rw[decide_eq_false hv,decide_eq_true (show-v≤0 by grind)];rfl
     ·rw[if_neg h5]at h;cases h
def hoC(p:SP)(xs:List Rat)(bs:List Bool)(c:List Int):Prop:=∃ l∈c,truB p xs bs l=true
theorem resI_hold{p:SP}{xs:List Rat}{bs:List Bool}{a b x:List Int}{on:Int}(ha:∀ l∈a,okLi l)(h:resI a b=some (x,on))(h1:hoC p xs bs a)(h2:hoC p xs bs b):hoC p xs bs x:=by
 unfold resI at h;split at h
 ·rename_i o e;simp only[Option.some.injEq,Prod.mk.injEq]at h;obtain⟨rfl,rfl⟩:=h;obtain⟨l1,m1,t1⟩:=h1;obtain⟨l2,m2,t2⟩:=h2;by_cases e1:l1=o
  ·have hok:=ha l1 m1;refine⟨l2,(canI_mem _ _).2 (List.mem_append.2 (.inr (List.mem_filter.2 ⟨m2,decide_eq_true fun e2=>?_⟩))),t2⟩;rw[e2,←e1,truB_neg p xs bs hok,t1]at t2;cases t2
  ·exact⟨l1,(canI_mem _ _).2 (List.mem_append.2 (.inl (List.mem_filter.2 ⟨m1,decide_eq_true e1⟩))),t1⟩
 ·cases h
theorem chaI_hold{p:SP}{xs:List Rat}{bs:List Bool}:∀ {cs:List (List Int)} {m:Nat} {c x:List Int},CanK m c→(∀y∈cs,CanK 100 y)→chaI c cs=some x→hoC p xs bs c→(∀y∈cs,hoC p xs bs y)→hoC p xs bs x
 | [],_,c,x,_,_,h,h1,_=>by
   rw[chaI]at h;obtain rfl:=Option.some.inj h;exact h1
 | y::cs,m,c,x,hc,hcs,h,h1,h2=>by
   rw[chaI]at h;split at h
   ·rename_i z o e;exact chaI_hold (resI_can hc (hcs y (by simp)) e) (fun w hw=>hcs w (List.mem_cons_of_mem _ hw)) h (resI_hold hc.ok e h1 (h2 y (by simp))) fun w hw=>h2 w (List.mem_cons_of_mem _ hw)
   ·cases h
theorem clA_take{l:List Stp}{i:Nat}(hi:i≤l.length){j:Int}(h0:0≤j)(h1:j<i):∃ h:j.toNat<l.length,clA (l.take i) j=l[j.toNat].cl:=by
 refine⟨by omega,?_⟩;unfold clA;rw[List.getElem?_take_of_lt (by omega),List.getElem?_eq_getElem (by omega)]
theorem fol_hold{p:SP}(hk:chkP p=0){l:List Stp}(hs:∀ s∈l,StO s){xs:List Rat}{bs:List Bool}(hp:holP p xs bs=true){n:Nat}(hn:n≤l.length)(hw:∀ i (h:i<l.length),i<n→wroP p (l.take i) l[i]=0):∀ m i (h:i<l.length),i<m→i<n→hoC p xs bs l[i].cl
 | 0,i,_,h,_=>absurd h (by omega)
 | m+1,i,hi,hm,hin=>by
   have ih:=fol_hold hk hs hp hn hw m;obtain⟨hf,hg⟩:=wro_zero (hw i hi hin);obtain⟨_,_,_,hA,_⟩:=chkP_zero hk;have hlen:=(hs _ (List.getElem_mem hi)).cn;rcases hg with ⟨_,_,h1⟩ | ⟨_,L,h1,h2,h3⟩ | ⟨_,h1,h2,h3⟩
   ·have h4:=List.all_eq_true.1 hp _ (List.mem_of_getElem? h1);obtain⟨x,hx,hx2⟩:=List.any_eq_true.1 h4;exact⟨x,hx,hx2⟩
   ·refine Classical.byContradiction fun hno=>?_;obtain⟨_,hm2⟩:=oppN_mem h1;have hl:L.length=(l[i]).tm.length:=Classical.byContradiction fun e=>by
     unfold fkI at h2;rw[if_pos e]at h2;omega
    have hbd:bdQ L (l[i]).tm L.length=false:=by
     cases e:bdQ L (l[i]).tm L.length with
     | false=>rfl
     | true=>
       unfold fkI at h2;rw[if_neg (fun h=>h hl),if_pos e]at h2;omega
    refine fk_sound hl hbd h3 (fun a ha=>?_) xs fun a ha=>?_
    ·obtain⟨x,hx,hxa⟩:=hm2 a ha;exact oppP_op (fun b hb=>by
      obtain⟨j,hj,rfl⟩:=List.getElem_of_mem hb;exact(hA j hj).2.2.1) hxa
    ·obtain⟨x,hx,hxa⟩:=hm2 a ha;rw[oppP_true hxa xs bs];cases e:truB p xs bs x with
     | false=>rfl
     | true=>exact absurd ⟨x,hx,e⟩ hno
   ·have hcl:∀ j∈(l[i]).pr,CanK 100 (clA (l.take i) j)∧hoC p xs bs (clA (l.take i) j):=fun j hj=>by
     obtain⟨h4,h5⟩:=h2 j hj;rw[List.length_take]at h5;obtain⟨h6,h7⟩:=clA_take (l:=l) (i:=i) (by omega) h4 (by omega);rw[h7];have:=(hs _ (List.getElem_mem h6)).cn;exact⟨(wro_zero (hw _ h6 (by omega))).1.can (by omega),ih _ h6 (by omega) (by omega)⟩
    cases e:(l[i]).pr.map (clA (l.take i))with
    | nil=>rw[e]at h3;cases h3
    | cons c cs=>
      rw[e]at h3;have hall:∀ y∈c::cs,CanK 100 y∧hoC p xs bs y:=fun y hy=>by
       rw[←e]at hy;obtain⟨j,hj,rfl⟩:=List.mem_map.1 hy;exact hcl j hj
      exact chaI_hold (hall c (by simp)).1 (fun y hy=>(hall y (List.mem_cons_of_mem _ hy)).1) h3 (hall c (by simp)).2 fun y hy=>(hall y (List.mem_cons_of_mem _ hy)).2
theorem fol_end{p:SP}(hk:chkP p=0){l:List Stp}(hs:∀ s∈l,StO s){xs:List Rat}{bs:List Bool}(hp:holP p xs bs=true){k e m f:Int}(h:FolR p l k e)(hc:CheR l k e m f):f≠0:=by
 rcases hc with ⟨h1,_,h2⟩ | ⟨_,_,_,h2⟩ | ⟨h1,⟨s,h3,h4⟩,_,_⟩
 ·omega
 ·omega
 ·rcases h with ⟨h,_,h5⟩ | ⟨_,_,_,h5⟩ | ⟨_,i,hi,_,h5,_,h6⟩
  ·omega
  ·exfalso;obtain⟨h6,h7⟩:=List.getElem?_eq_some_iff.1 h3;obtain⟨x,hx,_⟩:=fol_hold hk hs hp (Nat.le_refl _) (fun i hi _=>h5 i hi) l.length _ h6 h6 h6;rw[h7,h4]at hx;cases hx
  ·omega
end Go.Proofs.YtbbpecfapohlaaaGreatDoor
