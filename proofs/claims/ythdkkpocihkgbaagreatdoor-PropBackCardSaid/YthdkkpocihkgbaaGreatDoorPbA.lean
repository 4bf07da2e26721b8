import Derived.Test.YthdkkpocihkgbaaGreatDoorNuT
import Derived.Test.YthdkkpocihkgbaaGreatDoorPrR
namespace Go.Proofs.YthdkkpocihkgbaaGreatDoor
open Go.RowKit
theorem varV_fin:∀ (v:Fin 64) (i:Fin 33),varV (i.val:Int) (nameX (v.val:Int) (i.val:Int))=((v.val:Int),true):=by decide+kernel
theorem varV_name{v i:Int}(hv:0≤v∧v<64)(hi:0≤i∧i≤32):varV i (nameX v i)=(v,true):=by
 have:=varV_fin ⟨v.toNat,by omega⟩ ⟨i.toNat,by omega⟩;dsimp only at this;rwa[Int.toNat_of_nonneg hv.1,Int.toNat_of_nonneg hi.1]at this
theorem canL_congr{l m:List Tm}(h:∀ v,coef l v=coef m v):canL l=canL m:=canL_eq (canL_spec m).1 fun v=>by rw[(canL_spec m).2.1,h]
theorem canL_nil:canL []=[]:=canL_form ⟨.nil,by simp⟩
theorem canL_can(l:List Tm):canL (canL l)=canL l:=canL_congr (canL_spec l).2.1
theorem canL_app(l m:List Tm):canL (canL l++m)=canL (l++m):=canL_congr fun v=>by rw[coef_append,coef_append,(canL_spec l).2.1]
theorem canL_one{t:Tm}(h:t.2≠0):canL [t]=[t]:=canL_form ⟨by simp,fun u hu=>by rw[List.mem_singleton.1 hu];exact h⟩
theorem sum_tm{i:Int}{t:Tm}(hi:0≤i∧i≤32)(hv:0≤t.1∧t.1<64)(h:t.2≠0):sumX i (tmT i t)=(⟨[t],0⟩,true):=by
 unfold tmT;rw[sumX_l];show lstX i [42] [wdT (printL t.2),wdT (nameX t.1 i)]=_;unfold lstX;rw[if_neg (by decide),if_neg (by decide),if_pos rfl];dsimp only;rw[aw_num _ _ (parseR_print t.2)];have hn:sumX i (wdT (nameX t.1 i))=(⟨[(t.1,1)],0⟩,true):=by
  unfold wdT;rw[sumX_mk,if_pos rfl];unfold leafX;rw[varV_name hv hi,if_pos rfl]
 rw[hn];dsimp only;unfold scaleE;have h1:([(t.1,(1:Rat))].map (mulT t.2))=[t]:=by
  unfold mulT;simp[Rat.mul_one]
 rw[h1,canL_one h];simp[Rat.mul_zero]
theorem add_tms{i:Int}(hi:0≤i∧i≤32):∀ (l:List Tm) (acc:List Tm),Form acc→(∀t∈l,(0≤t.1∧t.1<64)∧t.2≠0)→(l.map fun t=>sumX i (tmT i t)).foldl (fun s x=>(addE s.1 x.1,s.2&&x.2)) (⟨acc,0⟩,true)=(⟨canL (acc++l),0⟩,true)
 | [],acc,hf,_=>by rw[List.append_nil,canL_form hf];rfl
 | t::l,acc,hf,h=>by
   obtain⟨h1,h2⟩:=h t (by simp);rw[List.map_cons,List.foldl_cons,sum_tm hi h1 h2];have e:addE ⟨acc,0⟩ ⟨[t],0⟩=⟨canL (acc++[t]),0⟩:=by
    show (⟨canL (acc++[t]),(0:Rat)+0⟩:Ex)=_;rw[Rat.add_zero]
   show List.foldl _ (addE ⟨acc,0⟩ ⟨[t],0⟩,true&&true) _=_;rw[e,Bool.and_self,add_tms hi l _ (canL_spec _).1 fun u hu=>h u (by simp[hu]),canL_app];simp
theorem sum_form{i:Int}{o:List Tm}(hi:0≤i∧i≤32)(hf:Form o)(hv:∀ t∈o,0≤t.1∧t.1<64):sumX i (.mk false [] (wdT [43]::o.map (tmT i)))=(⟨o,0⟩,true):=by
 rw[sumX_l];show lstX i [43] (o.map (tmT i))=_;unfold lstX;rw[if_pos rfl];unfold addAll;rw[List.map_map];have:=add_tms hi o [] ⟨.nil,by simp⟩ fun t ht=>⟨hv t ht,hf.2 t ht⟩
 rw[List.nil_append,canL_form hf]at this;exact this
theorem sum_num(i:Int)(q:Rat):sumX i (wdT (printL q))=(⟨[],q⟩,true):=by
 have hv:(varV i (printL q)).2=false:=by
  have h1:=printL_no q (c:=120) (by unfold DigC;decide) (by decide) (by decide);have h2:=printL_no q (c:=121) (by unfold DigC;decide) (by decide) (by decide);generalize printL q=w at h1 h2;cases w with
  | nil=>rfl
  | cons c t=>
    unfold varV;dsimp only;rw[if_pos];refine .inr (.inr (.inl ⟨fun e=>h1 ?_,fun e=>h2 ?_⟩))
    ·rw[show c=120 from UInt8.toNat_inj.1 e];simp
    ·rw[show c=121 from UInt8.toNat_inj.1 e];simp
 unfold wdT;rw[sumX_mk,if_pos rfl];unfold leafX;rw[hv,if_neg (by decide),parseR_print];rfl
noncomputable def cnA (a:At):At:=⟨⟨canL a.e.t,a.e.c⟩,a.op⟩
theorem opX_W{op:Int}(h:okOp op):opX (opW op)=op∧(opW op).head?≠some 62∧kindX (opW op)=0:=by
 obtain⟨h1,h2⟩:=h;obtain rfl | rfl | rfl:op=1∨op=2∨op=3:=by omega
 ·exact⟨rfl,by decide,rfl⟩
 ·exact⟨rfl,by decide,rfl⟩
 ·exact⟨rfl,by decide,rfl⟩
def inA(i o:Int)(a:At):Prop:=okOp a.op∧∀ t∈a.e.t,0≤t.1∧t.1<i+o
theorem cmp_told{i o:Int}(hi:1≤i∧i≤32)(ho:1≤o∧o≤32){a:At}(h:inA i o a)(n:Nat):fmX i (cmpT i a) n=(.mk 1 n [],[cnA a],true):=by
 obtain⟨h1,h2,h3⟩:=opX_W h.1;obtain⟨f1,f2,_⟩:=canL_spec a.e.t;unfold cmpT;rw[fmX_l];show (if true=true then(if kindX (opW a.op)≠0 then _ else cmpG n (cmpX i (opW a.op) _))else _)=_;rw[if_pos rfl,if_neg (by rw[h3];simp)];unfold cmpX;dsimp only;rw[if_neg (by rw[h1];have:=h.1;unfold okOp at this;omega),if_neg h2,sum_form (by omega) f1 (fun t ht=>by
  obtain⟨u,hu,e⟩:=canL_mem ht;have:=h.2 u hu;omega),sum_num,h1]
 dsimp only;have e:subE ⟨canL a.e.t,0⟩ ⟨[],-a.e.c⟩=⟨canL a.e.t,a.e.c⟩:=by
  unfold subE scaleE addE;rw[List.map_nil];rw[canL_nil,List.append_nil,canL_can]
  congr 1
  grind
 rw[e];rfl
mutual
noncomputable def ocT (ats:List At):FT→List At
 | .mk k a s=>if k=1 then [cnA (ats.getD a.toNat atZ)]else if k=5∨k=6 then []else ocTs ats s
noncomputable def ocTs (ats:List At):List FT→List At
 | []=>[]
 | f::r=>ocT ats f++ocTs ats r
end
mutual
noncomputable def bkT (ats:List At):FT→Nat→FT
 | .mk k _ s,n=>if k=1 then .mk 1 n []else if k=5∨k=6 then .mk k 0 []else .mk k 0 (bkTs ats s n)
noncomputable def bkTs (ats:List At):List FT→Nat→List FT
 | [],_=>[]
 | f::r,n=>bkT ats f n::bkTs ats r (n+(ocT ats f).length)
end
theorem ocT_mk(ats:List At)(k a:Int)(s:List FT):ocT ats (.mk k a s)=if k=1 then [cnA (ats.getD a.toNat atZ)]else if k=5∨k=6 then []else ocTs ats s:=by rw[ocT]
theorem bkT_mk(ats:List At)(k a:Int)(s:List FT)(n:Nat):bkT ats (.mk k a s) n=if k=1 then .mk 1 n []else if k=5∨k=6 then .mk k 0 []else .mk k 0 (bkTs ats s n):=by rw[bkT]
theorem bkTs_len(ats:List At):∀ (s:List FT) (n:Nat),(bkTs ats s n).length=s.length
 | [],n=>by rw[bkTs]
 | f::r,n=>by rw[bkTs,List.length_cons,List.length_cons,bkTs_len ats r]
theorem shT_arm{k a:Int}{s:List FT}{n:Int}(h:shT (.mk k a s) n=true):(k=1∧0≤a∧a<n∧s=[])∨((k=5∨k=6)∧s=[])∨((k=2∨k=3∨k=4)∧(k=2→s.length=1)∧shTs s n=true):=by
 rw[shT]at h;by_cases h1:k=1
 ·rw[if_pos h1]at h;simp only[Bool.and_eq_true,Bool.not_eq_true',Bool.or_eq_false_iff,decide_eq_false_iff_not,List.isEmpty_iff]at h;exact .inl ⟨h1,by omega,by omega,h.2⟩
 rw[if_neg h1]at h;by_cases h2:k=5∨k=6
 ·rw[if_pos h2,List.isEmpty_iff]at h;exact .inr (.inl ⟨h2,h⟩)
 rw[if_neg h2]at h;by_cases h3:k=2
 ·rw[if_pos h3,Bool.and_eq_true,decide_eq_true_iff]at h;exact .inr (.inr ⟨.inl h3,fun _=>h.1,h.2⟩)
 rw[if_neg h3]at h;by_cases h4:k=3∨k=4
 ·rw[if_pos h4]at h;exact .inr (.inr ⟨.inr h4,fun e=>absurd e h3,h⟩)
 ·rw[if_neg h4]at h;cases h
theorem kind_W{k:Int}(h:k=2∨k=3∨k=4):kindX (kindW k)=k:=by
 obtain rfl | rfl | rfl:=h<;>rfl
mutual
theorem fm_told{i o:Int}{ats:List At}(hi:1≤i∧i≤32)(ho:1≤o∧o≤32)(ha:∀ a∈ats,inA i o a):∀ (f:FT),shT f ats.length=true→∀ n,fmX i (tolX ats i f) n=(bkT ats f n,ocT ats f,true)
 | .mk k a s,h,n=>by
   rw[tolX_mk,bkT_mk,ocT_mk];rcases shT_arm h with ⟨h1,h2,h3,rfl⟩ | ⟨h1,rfl⟩ | ⟨h1,h2,h3⟩
   ·rw[if_pos h1,if_pos h1,if_pos h1];refine cmp_told hi ho (ha _ ?_) n;rw[List.getD_eq_getElem?_getD,List.getElem?_eq_getElem (by omega)];exact List.getElem_mem _
   ·have hk:k≠1:=by omega
    rw[if_neg hk,if_neg hk,if_neg hk,if_pos h1,if_pos h1];rcases h1 with rfl | rfl
    ·rw[if_pos rfl];unfold wdT;rw[fmX_t,if_pos rfl]
    ·rw[if_neg (by decide),if_pos rfl];unfold wdT;rw[fmX_t,if_neg (by decide),if_pos rfl]
   ·have hk:k≠1:=by omega
    have hk5:¬(k=5∨k=6):=by omega
    rw[if_neg hk,if_neg hk,if_neg hk,if_neg hk5,if_neg hk5,if_neg (by omega),if_neg (by omega),fmX_l];have hw:(wdT (kindW k)).w=kindW k:=rfl;rw[if_pos (show (wdT (kindW k)).b=true from rfl),hw,kind_W h1,if_pos (by omega),fms_told hi ho ha s h3];have hl:(tolXs ats i s).length=s.length:=by rw[tolXs_map,List.length_map]
    dsimp only
    congr 2
    rw[hl];by_cases h4:k=2
    ·rw[h2 h4];simp
    ·simp[h4]
theorem fms_told{i o:Int}{ats:List At}(hi:1≤i∧i≤32)(ho:1≤o∧o≤32)(ha:∀ a∈ats,inA i o a):∀ (s:List FT),shTs s ats.length=true→∀ n,fmXs i (tolXs ats i s) n=(bkTs ats s n,ocTs ats s,true)
 | [],h,n=>by rw[tolXs,fmXs_nil,bkTs,ocTs]
 | f::r,h,n=>by
   rw[shTs,Bool.and_eq_true]at h;rw[tolXs,fmXs_cons,bkTs,ocTs,fm_told hi ho ha f h.1,fms_told hi ho ha r h.2];rfl
end
mutual
theorem oc_nd(ats:List At):∀ f:FT,((ocT ats f).length:Int)≤ndT f
 | .mk k a s=>by
   have h1:=ocs_nd ats s;have h2:=ndTs_pos s;rw[ocT_mk,ndT_mk];split
   ·simp;omega
   ·split
    ·simp;omega
    ·omega
theorem ocs_nd(ats:List At):∀ s:List FT,((ocTs ats s).length:Int)≤ndTs s
 | []=>by rw[ocTs,ndTs];simp
 | f::r=>by
   have h1:=oc_nd ats f;have h2:=ocs_nd ats r;rw[ocTs,ndTs,List.length_append];omega
end
theorem ndTs_nil:ndTs []=0:=by rw[ndTs]
mutual
theorem bk_nd(ats:List At):∀ (f:FT) (n:Nat),ndT (bkT ats f n)≤ndT f
 | .mk k a s,n=>by
   have h1:=bks_nd ats s n;have h2:=ndTs_pos s;rw[bkT_mk,ndT_mk];split
   ·rw[ndT_mk,ndTs_nil];omega
   ·split
    ·rw[ndT_mk,ndTs_nil];omega
    ·rw[ndT_mk];omega
theorem bks_nd(ats:List At):∀ (s:List FT) (n:Nat),ndTs (bkTs ats s n)≤ndTs s
 | [],n=>by rw[bkTs];exact Int.le_refl _
 | f::r,n=>by
   have h1:=bk_nd ats f n;have h2:=bks_nd ats r (n+(ocT ats f).length);rw[bkTs,ndTs,ndTs];omega
end
mutual
theorem bk_dp(ats:List At):∀ (f:FT) (n d:Nat),dpT (bkT ats f n) d→dpT f d
 | .mk k a s,n,d,h=>by
   rw[bkT_mk]at h;rw[dpT];split at h
   ·rw[dpT,dpTs]at h;rcases h with h | h
    ·exact .inl h
    ·exact h.elim
   ·split at h
    ·rw[dpT,dpTs]at h;rcases h with h | h
     ·exact .inl h
     ·exact h.elim
    ·rw[dpT]at h;rcases h with h | h
     ·exact .inl h
     ·exact .inr (bks_dp ats s n (d+1) h)
theorem bks_dp(ats:List At):∀ (s:List FT) (n d:Nat),dpTs (bkTs ats s n) d→dpTs s d
 | [],n,d,h=>by rw[bkTs]at h;exact h
 | f::r,n,d,h=>by
   rw[bkTs,dpTs]at h;rw[dpTs];rcases h with h | h
   ·exact .inl (bk_dp ats f n d h)
   ·exact .inr (bks_dp ats r _ d h)
end
mutual
theorem bk_sh(ats:List At):∀ (f:FT) (n N:Nat),shT f ats.length=true→n+(ocT ats f).length≤N→shT (bkT ats f n) N=true
 | .mk k a s,n,N,h,hn=>by
   rw[bkT_mk];rw[ocT_mk]at hn;rcases shT_arm h with ⟨h1,h2,h3,rfl⟩ | ⟨h1,rfl⟩ | ⟨h1,h2,h3⟩
   ·rw[if_pos h1]at hn ⊢;simp only[List.length_cons,List.length_nil]at hn;rw[shT,if_pos rfl];simp;omega
   ·have hk:k≠1:=by omega
    rw[if_neg hk,if_pos h1,shT,if_neg hk,if_pos h1];rfl
   ·have hk:k≠1:=by omega
    have hk5:¬(k=5∨k=6):=by omega
    rw[if_neg hk,if_neg hk5]at hn;have ih:=bks_sh ats s n N h3 hn;rw[if_neg hk,if_neg hk5,shT,if_neg hk,if_neg hk5,bkTs_len,ih];by_cases h4:k=2
    ·rw[if_pos h4,h2 h4];rfl
    ·rw[if_neg h4,if_pos (by omega)]
theorem bks_sh(ats:List At):∀ (s:List FT) (n N:Nat),shTs s ats.length=true→n+(ocTs ats s).length≤N→shTs (bkTs ats s n) N=true
 | [],n,N,h,hn=>by rw[bkTs,shTs]
 | f::r,n,N,h,hn=>by
   rw[shTs,Bool.and_eq_true]at h;rw[ocTs,List.length_append]at hn;rw[bkTs,shTs,bk_sh ats f n N h.1 (by omega),bks_sh ats r _ N h.2 (by omega)];rfl
end
mutual
theorem bk_ok(ats:List At):∀ (f:FT) (n:Nat),okT f→okT (bkT ats f n)
 | .mk k a s,n,h=>by
   rw[okT]at h;rw[bkT_mk];split
   ·rw[okT,okTs];exact⟨by simp,trivial⟩
   ·split
    ·rw[okT,okTs];exact⟨by simp,trivial⟩
    ·rw[okT,bkTs_len];exact⟨h.1,bks_ok ats s n h.2⟩
theorem bks_ok(ats:List At):∀ (s:List FT) (n:Nat),okTs s→okTs (bkTs ats s n)
 | [],n,h=>by rw[bkTs,okTs];trivial
 | f::r,n,h=>by
   rw[okTs]at h;rw[bkTs,okTs];exact⟨bk_ok ats f n h.1,bks_ok ats r _ h.2⟩
end
theorem oc_mem(ats:List At):∀ (m:Nat) (f:FT),szT f<m→shT f ats.length=true→∀ a∈ocT ats f,∃b∈ats,a=cnA b:=by
 intro m
 induction m with
 | zero=>intro f h;omega
 | succ m ih=>
 intro f hm h a ha;obtain⟨k,x,s⟩:=f;rw[ocT_mk]at ha;rcases shT_arm h with ⟨h1,h2,h3,rfl⟩ | ⟨h1,rfl⟩ | ⟨h1,h2,h3⟩
 ·rw[if_pos h1,List.mem_singleton]at ha;refine⟨_,?_,ha⟩;rw[List.getD_eq_getElem?_getD,List.getElem?_eq_getElem (by omega)];exact List.getElem_mem _
 ·rw[if_neg (by omega),if_pos h1]at ha;cases ha
 ·rw[if_neg (by omega),if_neg (by omega)]at ha;have key:∀ s':List FT,(∀g∈s',szT g<m∧shT g ats.length=true)→∀ a∈ocTs ats s',∃b∈ats,a=cnA b:=by
   intro s'
   induction s' with
   | nil=>intro _ a ha;rw[ocTs]at ha;cases ha
   | cons g r ihr=>
     intro hg a ha;rw[ocTs,List.mem_append]at ha;rcases ha with ha | ha
     ·exact ih g (hg g (by simp)).1 (hg g (by simp)).2 a ha
     ·exact ihr (fun g' h'=>hg g' (by simp[h'])) a ha
  exact key s (fun g hg=>⟨by have:=FT.lt (k:=k) (a:=x) hg;omega,shTs_mem h3 g hg⟩) a ha
theorem say_cn(p:List Rat)(a:At):sayB (cnA a).op ((cnA a).e.c+evalT p (cnA a).e.t)=sayB a.op (a.e.c+evalT p a.e.t):=by
 show sayB a.op (a.e.c+evalT p (canL a.e.t))=_;rw[eval_same p (canL_spec a.e.t).2.1]
theorem cmpT_cn(i:Int)(a:At):cmpT i (cnA a)=cmpT i a:=by
 unfold cmpT cnA;dsimp only;rw[canL_can]
theorem at_mid{α:Type}(u v:List α)(x d:α):(u++[x]++v).getD ((u.length:Nat):Int).toNat d=x:=by
 simp
mutual
theorem ev_bk(ats:List At)(q:List Rat):∀ (f:FT) (u v:List At),shT f ats.length=true→evT (bkT ats f u.length) (valsP (u++ocT ats f++v) q)=evT f (valsP ats q)
 | .mk k a s,u,v,h=>by
   rw[bkT_mk,ocT_mk];rcases shT_arm h with ⟨h1,h2,h3,rfl⟩ | ⟨h1,rfl⟩ | ⟨h1,h2,h3⟩
   ·rw[if_pos h1,if_pos h1,evT,evT,if_pos rfl,if_pos h1];have ha:a.toNat<ats.length:=by omega
    have e:=at_mid (u.map fun a=>sayB a.op (a.e.c+evalT q a.e.t)) (v.map fun a=>sayB a.op (a.e.c+evalT q a.e.t)) (sayB (cnA (ats.getD a.toNat atZ)).op ((cnA (ats.getD a.toNat atZ)).e.c+evalT q (cnA (ats.getD a.toNat atZ)).e.t)) false;unfold valsP;rw[List.map_append,List.map_append,List.map_singleton];rw[List.length_map]at e;rw[e,say_cn];simp[List.getD_eq_getElem?_getD,List.getElem?_eq_getElem ha]
   ·have hk:k≠1:=by omega
    rw[if_neg hk,if_pos h1,evT,evT];have k2:k≠2:=by omega
    have k3:k≠3:=by omega
    have k4:k≠4:=by omega
    simp only[hk,k2,k3,k4,if_false]
   ·have hk:k≠1:=by omega
    have hk5:¬(k=5∨k=6):=by omega
    obtain⟨e1,e2,e3⟩:=evs_bk ats q s u v h3;rw[if_neg hk,if_neg hk,if_neg hk5,if_neg hk5,evT,evT,e1,e2,e3,if_neg hk,if_neg hk]
theorem evs_bk(ats:List At)(q:List Rat):∀ (s:List FT) (u v:List At),shTs s ats.length=true→evHd (bkTs ats s u.length) (valsP (u++ocTs ats s++v) q)=evHd s (valsP ats q)∧evAll (bkTs ats s u.length) (valsP (u++ocTs ats s++v) q)=evAll s (valsP ats q)∧evAny (bkTs ats s u.length) (valsP (u++ocTs ats s++v) q)=evAny s (valsP ats q)
 | [],u,v,h=>by
   rw[bkTs];exact⟨by rw[evHd,evHd],by rw[evAll,evAll],by rw[evAny,evAny]⟩
 | f::r,u,v,h=>by
   rw[shTs,Bool.and_eq_true]at h;have h1:=ev_bk ats q f u (ocTs ats r++v) h.1;have h2:=evs_bk ats q r (u++ocT ats f) v h.2;rw[List.length_append]at h2;rw[bkTs,ocTs,show u++(ocT ats f++ocTs ats r)++v=u++ocT ats f++(ocTs ats r++v)by simp];rw[show u++ocT ats f++ocTs ats r++v=u++ocT ats f++(ocTs ats r++v)by simp]at h2;exact⟨by rw[evHd,evHd,h1],by rw[evAll,evAll,h1,h2.2.1],by rw[evAny,evAny,h1,h2.2.2]⟩
end
mutual
theorem tol_bk(ats:List At)(i:Int):∀ (f:FT) (u v:List At),shT f ats.length=true→tolX (u++ocT ats f++v) i (bkT ats f u.length)=tolX ats i f
 | .mk k a s,u,v,h=>by
   rw[bkT_mk,ocT_mk,tolX_mk ats];rcases shT_arm h with ⟨h1,h2,h3,rfl⟩ | ⟨h1,rfl⟩ | ⟨h1,h2,h3⟩
   ·rw[if_pos h1,if_pos h1,if_pos h1,tolX_mk,if_pos rfl,at_mid,cmpT_cn]
   ·have hk:k≠1:=by omega
    rw[if_neg hk,if_neg hk,if_pos h1,if_pos h1,tolX_mk,if_neg hk];rcases h1 with rfl | rfl
    ·rfl
    ·rfl
   ·have hk:k≠1:=by omega
    have hk5:¬(k=5∨k=6):=by omega
    rw[if_neg hk,if_neg hk,if_neg hk,if_neg hk5,if_neg hk5,tolX_mk,if_neg hk,tols_bk ats i s u v h3]
theorem tols_bk(ats:List At)(i:Int):∀ (s:List FT) (u v:List At),shTs s ats.length=true→tolXs (u++ocTs ats s++v) i (bkTs ats s u.length)=tolXs ats i s
 | [],u,v,h=>by rw[bkTs,tolXs,tolXs]
 | f::r,u,v,h=>by
   rw[shTs,Bool.and_eq_true]at h;have h1:=tol_bk ats i f u (ocTs ats r++v) h.1;have h2:=tols_bk ats i r (u++ocT ats f) v h.2;rw[List.length_append]at h2;rw[bkTs,ocTs,show u++(ocT ats f++ocTs ats r)++v=u++ocT ats f++(ocTs ats r++v)by simp];rw[show u++ocT ats f++ocTs ats r++v=u++ocT ats f++(ocTs ats r++v)by simp]at h2;rw[tolXs,tolXs,h1,h2]
end
theorem noTs_ge:∀ (s:List FT) (m n:Int),0≤m→n≤noTs s m n
 | [],m,n,h=>by rw[noTs];exact Int.le_refl _
 | f::r,m,n,h=>by
   rw[noTs];split
   ·exact Int.le_refl _
   ·have h1:=noT_rng f (m-n) (by omega);have h2:=noTs_ge r m (n+noT f (m-n)) h;omega
mutual
theorem noT_nd:∀ (f:FT) (m:Int),0≤m→noT f m≤m→noT f m=ndT f
 | .mk _ _ s,m,h0,h=>by
   rw[noT]at h ⊢;rw[ndT_mk];exact noTs_nd s m 1 h0 h
theorem noTs_nd:∀ (s:List FT) (m n:Int),0≤m→noTs s m n≤m→noTs s m n=n+ndTs s
 | [],m,n,h0,h=>by rw[noTs,ndTs];omega
 | f::r,m,n,h0,h=>by
   rw[noTs]at h ⊢;rw[ndTs];split at h
   ·omega
   ·rename_i hn;rw[if_neg hn];have h1:=noTs_ge r m (n+noT f (m-n)) h0;have h2:=noT_nd f (m-n) (by omega) (by omega);have h3:=noTs_nd r m _ h0 h;omega
end
noncomputable def bkP (p:PP):PP:=⟨p.box,ocT p.ats p.bad,bkT p.ats p.bad 0⟩
theorem chk_in{p:PP}{i o:Int}(h:chkPP p i o=0):(1≤i∧i≤32)∧(1≤o∧o≤32)∧(∀a∈p.ats,inA i o a)∧chkT p.bad p.ats.length=0∧bxB p.box=true∧(p.box.length:Int)=i:=by
 unfold chkPP pChkE at h;split at h
 ·cases h
 split at h
 ·cases h
 rename_i h1 h2;split at h
 ·rename_i h3;split at h
  ·rename_i h4;refine⟨by omega,by omega,fun a ha=>?_,by omega,h3,by omega⟩;have:=List.all_eq_true.1 h4 a ha;unfold okTm at this;simp only[Bool.and_eq_true,Bool.not_eq_true',Bool.or_eq_false_iff,decide_eq_false_iff_not,List.all_eq_true]at this;exact⟨⟨by omega,by omega⟩,fun t ht=>by have:=this.2 t ht;omega⟩
  ·cases h
 ·cases h
theorem side_told(s:Rat×Rat):sideX (sdT s)=(s,true):=by
 unfold sdT sideX;dsimp only[ST.l];rw[aw_num _ _ (parseR_print s.1),aw_num _ _ (parseR_print s.2)];rfl
theorem rows_parse{p:PP}{i o:Int}(h:chkPP p i o=0):parsePP i (rowsP p i)=some (bkP p):=by
 obtain⟨hi,ho,ha,h0,hb,hl⟩:=chk_in h;unfold rowsP parsePP;dsimp only;have e1:headX (.mk false [] (wdT [98,111,120]::p.box.map sdT))=([98,111,120],p.box.map sdT):=rfl;have e2:headX (.mk false [] [wdT [98,97,100],tolX p.ats i p.bad])=([98,97,100],[tolX p.ats i p.bad]):=rfl;have e3:(p.box.map sdT).all pairB=true:=by
  rw[List.all_map,List.all_eq_true];intro s _;rfl
 have e4:bxOK (p.box.map sdT)=true:=by
  unfold bxOK;rw[List.all_map,List.all_eq_true];intro s _;show (sideX (sdT s)).2=true;rw[side_told]
 have e5:(p.box.map sdT).map (fun x=>(sideX x).1)=p.box:=by
  rw[List.map_map]
  conv=>rhs;rw[←List.map_id p.box]
  refine List.map_congr_left fun s _=>?_;show (sideX (sdT s)).1=s;rw[side_told]
 rw[e1,e2];dsimp only;rw[if_pos ⟨rfl,rfl,e3⟩,fm_told hi ho ha p.bad (chk_0 h0),e4];dsimp only;rw[Bool.and_self,if_pos rfl,e5];rfl
theorem rows_back{p:PP}(i:Int)(h:shT p.bad p.ats.length=true):rowsP (bkP p) i=rowsP p i:=by
 have:=tol_bk p.ats i p.bad [] [] h;rw[List.nil_append,List.append_nil]at this;unfold rowsP bkP;dsimp only;rw[←this];rfl
theorem vio_back{p:PP}(x y:List Rat)(h:shT p.bad p.ats.length=true):vioR (bkP p) x y=vioR p x y:=by
 have:=ev_bk p.ats (x++y) p.bad [] [] h;rw[List.nil_append,List.append_nil]at this;unfold vioR bkP;dsimp only;rw[←this];rfl
theorem inA_cn{i o:Int}{a:At}(h:inA i o a):inA i o (cnA a):=⟨h.1,fun t ht=>by
 obtain⟨u,hu,e⟩:=canL_mem ht;have:=h.2 u hu;omega⟩
theorem okTm_of{i o:Int}{a:At}(h:inA i o a):okTm (i+o) a=true:=by
 unfold okTm;obtain⟨⟨h1,h2⟩,h3⟩:=h;simp only[Bool.and_eq_true,Bool.not_eq_true',Bool.or_eq_false_iff,decide_eq_false_iff_not,List.all_eq_true];exact⟨⟨by omega,by omega⟩,fun t ht=>by have:=h3 t ht;omega⟩
theorem chkT_dp{f:FT}{n:Int}(h:chkT f n=0):¬ dpT f 1:=fun hd=>by
 have:=cntT_up f 0 1 (by decide) (.inl hd);unfold chkT at h;rw[if_pos this]at h;cases h
theorem chk_back{p:PP}{i o:Int}(h:chkPP p i o=0)(hn:ndT p.bad≤190):chkPP (bkP p) i o=0:=by
 obtain⟨hi,ho,ha,h0,hb,hl⟩:=chk_in h;have hsh:=chk_0 h0;have hoc:=oc_nd p.ats p.bad;have hbn:=bk_nd p.ats p.bad 0;have hbd:¬ dpT (bkT p.ats p.bad 0) 1:=fun hd=>chkT_dp h0 (bk_dp _ _ _ _ hd);have hct:=cntT_ok (bkT p.ats p.bad 0) 0 1 hbd (by omega);have hc:chkT (bkP p).bad (bkP p).ats.length=0:=by
  show chkT (bkT p.ats p.bad 0) (ocT p.ats p.bad).length=0;unfold chkT;rw[if_neg (by omega),if_pos (bk_sh p.ats p.bad 0 _ hsh (by omega))]
 have hat:(bkP p).ats.all (okTm (i+o))=true:=List.all_eq_true.2 fun a haa=>by
  obtain⟨b,hb,rfl⟩:=oc_mem p.ats _ p.bad (Nat.lt_succ_self _) hsh a haa;exact okTm_of (inA_cn (ha b hb))
 unfold chkPP pChkE;rw[hc,if_neg (by
  show ¬(200<(ocT p.ats p.bad).length∨_);omega),if_neg (by
  show ¬((0:Int)≠0∨i<1∨o<1∨32<i∨32<o∨(p.box.length:Int)≠i);omega)]
 rw[show (bkP p).box=p.box from rfl,hb,if_pos rfl,if_pos hat]
theorem okX_w:∀ (m:Nat) (s:ST),wX s<m→wX s≤9223372036854775807→okX s:=by
 intro m
 induction m with
 | zero=>intro s h;omega
 | succ m ih=>
 intro s h h1;obtain⟨b,w,l⟩:=s;rw[wX_mk]at h h1;rw[okX];have h2:=cXs_len l;have h3:=cXs_w l;refine⟨by omega,by omega,?_⟩;have h4:∀ x∈l,okX x:=fun x hx=>ih x (by have:=(wXs_mem hx).1;omega) (by have:=(wXs_mem hx).1;omega);clear h h1 h2 h3
 induction l with
 | nil=>rw[okXs];trivial
 | cons x r ihr=>rw[okXs];exact⟨h4 x (by simp),ihr fun y hy=>h4 y (by simp[hy])⟩
theorem okXs_w{l:List ST}(h:wXs l≤9223372036854775807):okXs l:=by
 have h4:∀ x∈l,okX x:=fun x hx=>okX_w _ x (Nat.lt_succ_self _) (by have:=(wXs_mem hx).1;omega);clear h
 induction l with
 | nil=>rw[okXs];trivial
 | cons x r ihr=>rw[okXs];exact⟨h4 x (by simp),ihr fun y hy=>h4 y (by simp[hy])⟩
mutual
theorem putX_w:∀ s:ST,(putX s).length+1≤3*wX s
 | .mk b w l=>by
   have:=putXs_w l;rw[putX,wX_mk];split
   ·omega
   ·simp only[List.length_cons,List.length_append,List.length_nil];omega
theorem putXs_w:∀ l:List ST,(putXs l).length≤3*wXs l
 | []=>by rw[putXs];exact Nat.zero_le _
 | s::r=>by
   have h1:=putX_w s;have h2:=tlX_w r;rw[putXs,wXs_cons,List.length_append];omega
theorem tlX_w:∀ l:List ST,(tlX l).length≤3*wXs l
 | []=>by rw[tlX];exact Nat.zero_le _
 | s::r=>by
   have h1:=putX_w s;have h2:=tlX_w r;rw[tlX,wXs_cons,List.length_cons,List.length_append];omega
end
theorem allX_w:∀ l:List ST,(allX l).length≤3*wXs l
 | []=>Nat.zero_le _
 | s::r=>by
   have h1:=putX_w s;have h2:=allX_w r;have e:allX (s::r)=putX s++10::allX r:=by unfold allX;simp
   rw[e,wXs_cons,List.length_append,List.length_cons];omega
theorem wX_wd(w:List UInt8):wX (wdT w)=w.length+1:=by unfold wdT;rw[wX_mk,wXs_nil]
theorem cX_wd(w:List UInt8):cX (wdT w)=1:=by unfold wdT;rw[cX_mk,cXs_nil]
theorem swX_wd{w:List UInt8}(h:w.length≤20000):swX (wdT w):=by unfold wdT;rw[swX_mk,swXs];exact⟨h,trivial⟩
theorem swX_of{l:List ST}(h:∀ x∈l,swX x):swX (.mk false [] l):=by
 rw[swX_mk];refine⟨by decide,?_⟩
 induction l with
 | nil=>rw[swXs];trivial
 | cons x r ih=>rw[swXs];exact⟨h x (by simp),ih fun y hy=>h y (by simp[hy])⟩
theorem wXs_le{B:Nat}:∀ {l:List ST},(∀x∈l,wX x≤B)→wXs l≤l.length*B
 | [],_=>by rw[wXs_nil];exact Nat.zero_le _
 | x::r,h=>by
   have h1:=h x (by simp);have h2:=wXs_le (l:=r) fun y hy=>h y (by simp[hy]);rw[wXs_cons,List.length_cons,Nat.add_mul,Nat.one_mul];omega
theorem cXs_le{B:Nat}:∀ {l:List ST},(∀x∈l,cX x≤B)→cXs l≤l.length*B
 | [],_=>by rw[cXs_nil];exact Nat.zero_le _
 | x::r,h=>by
   have h1:=h x (by simp);have h2:=cXs_le (l:=r) fun y hy=>h y (by simp[hy]);rw[cXs_cons,List.length_cons,Nat.add_mul,Nat.one_mul];omega
theorem printL_bd{q:Rat}(h:Bd 3400 q):(printL q).length≤8000:=by
 have h1:=printL_len q;have h2:=limbs_len_bd h.1;have h3:=limbs_len_bd h.2;omega
def shA(a:At):Prop:=okOp a.op∧(canL a.e.t).length≤12∧(∀t∈canL a.e.t,(printL t.2).length≤8000∧0≤t.1∧t.1<64)∧(printL (-a.e.c)).length≤8000
theorem name_len{v i:Int}(hv:0≤v∧v<64)(hi:0≤i∧i≤32):(nameX v i).length≤30:=by
 unfold nameX;split
 ·have:=Lib.itoa_length_le v (by omega) (by omega);simp only[List.length_cons];omega
 ·have:=Lib.itoa_length_le (v-i) (by omega) (by omega);simp only[List.length_cons];omega
theorem opW_len(op:Int):(opW op).length≤2:=by
 unfold opW;split
 ·decide
 ·split<;>decide
theorem tm_short{i:Int}(hi:0≤i∧i≤32){t:Tm}(h:(printL t.2).length≤8000∧0≤t.1∧t.1<64):wX (tmT i t)≤8100∧cX (tmT i t)=4∧swX (tmT i t):=by
 have hn:=name_len h.2 hi;unfold tmT;refine⟨?_,?_,swX_of fun x hx=>?_⟩
 ·rw[wX_mk,wXs_cons,wXs_cons,wXs_cons,wXs_nil,wX_wd,wX_wd,wX_wd];simp only[List.length_cons,List.length_nil];omega
 ·rw[cX_mk,cXs_cons,cXs_cons,cXs_cons,cXs_nil,cX_wd,cX_wd,cX_wd]
 ·simp only[List.mem_cons,List.not_mem_nil,or_false]at hx;rcases hx with rfl | rfl | rfl
  ·exact swX_wd (by decide)
  ·exact swX_wd (by omega)
  ·exact swX_wd (by omega)
theorem cmp_short{i:Int}(hi:0≤i∧i≤32){a:At}(h:shA a):wX (cmpT i a)≤110000∧kX (cmpT i a)≤40000000∧swX (cmpT i a):=by
 obtain⟨_,h1,h2,h3⟩:=h;have ho:=opW_len a.op;have hw:wXs ((canL a.e.t).map (tmT i))≤12*8100:=by
  refine Nat.le_trans (wXs_le (B:=8100) fun x hx=>?_) (Nat.mul_le_mul_right _ (by rw[List.length_map];exact h1));obtain⟨t,ht,rfl⟩:=List.mem_map.1 hx;exact(tm_short hi (h2 t ht)).1
 have hc:cXs ((canL a.e.t).map (tmT i))≤12*4:=by
  refine Nat.le_trans (cXs_le (B:=4) fun x hx=>?_) (Nat.mul_le_mul_right _ (by rw[List.length_map];exact h1));obtain⟨t,ht,rfl⟩:=List.mem_map.1 hx;exact Nat.le_of_eq (tm_short hi (h2 t ht)).2.1
 have ew:wX (cmpT i a)≤110000:=by
  unfold cmpT;rw[wX_mk,wXs_cons,wXs_cons,wXs_cons,wXs_nil,wX_wd,wX_wd,wX_mk,wXs_cons,wX_wd];simp only[List.length_cons,List.length_nil];omega
 have ec:cX (cmpT i a)≤60:=by
  unfold cmpT;rw[cX_mk,cXs_cons,cXs_cons,cXs_cons,cXs_nil,cX_wd,cX_wd,cX_mk,cXs_cons,cX_wd];omega
 refine⟨ew,?_,?_⟩
 ·unfold kX;exact Nat.le_trans (Nat.mul_le_mul ec (show 4*wX (cmpT i a)+8≤440008 by omega)) (by decide)
 ·unfold cmpT;refine swX_of fun x hx=>?_;simp only[List.mem_cons,List.not_mem_nil,or_false]at hx;rcases hx with rfl | rfl | rfl
  ·exact swX_wd (by omega)
  ·refine swX_of fun x hx=>?_;rcases List.mem_cons.1 hx with rfl | hx
   ·exact swX_wd (by decide)
   ·obtain⟨t,ht,rfl⟩:=List.mem_map.1 hx;exact(tm_short hi (h2 t ht)).2.2
  ·exact swX_wd (by omega)
theorem wd_short(w:List UInt8)(h:w.length≤100):kX (wdT w)≤40000000:=by
 unfold kX;rw[cX_wd,wX_wd];omega
theorem tol_short{i:Int}(hi:0≤i∧i≤32){ats:List At}(ha:∀ a∈ats,shA a):∀ (m:Nat) (f:FT),szT f<m→shT f ats.length=true→(wX (tolX ats i f):Int)≤110000*ndT f∧swX (tolX ats i f)∧fbX (tolX ats i f):=by
 intro m
 induction m with
 | zero=>intro f h;omega
 | succ m ih=>
 intro f hm h;obtain⟨k,x,s⟩:=f;rw[tolX_mk,ndT_mk];rcases shT_arm h with ⟨h1,h2,h3,rfl⟩ | ⟨h1,rfl⟩ | ⟨h1,h2,h3⟩
 ·rw[if_pos h1,ndTs_nil];obtain⟨c1,c2,c3⟩:=cmp_short hi (ha (ats.getD x.toNat atZ) (by
   rw[List.getD_eq_getElem?_getD,List.getElem?_eq_getElem (by omega)];exact List.getElem_mem _))
  exact⟨by omega,c3,.small c2⟩
 ·rw[if_neg (by omega),ndTs_nil];rcases h1 with rfl | rfl
  ·rw[if_pos rfl];exact⟨by rw[wX_wd];decide,swX_wd (by decide),.small (wd_short _ (by decide))⟩
  ·rw[if_neg (by decide),if_pos rfl];exact⟨by rw[wX_wd];decide,swX_wd (by decide),.small (wd_short _ (by decide))⟩
 ·rw[if_neg (by omega),if_neg (by omega),if_neg (by omega)];have hk:(kindW k).length≤3:=by obtain rfl | rfl | rfl:=h1<;>decide
  have key:∀ s':List FT,(∀g∈s',szT g<m∧shT g ats.length=true)→(wXs (tolXs ats i s'):Int)≤110000*ndTs s'∧∀ y∈tolXs ats i s',swX y∧fbX y:=by
   intro s'
   induction s' with
   | nil=>intro _;rw[tolXs,wXs_nil,ndTs_nil];exact⟨by decide,fun y hy=>nomatch hy⟩
   | cons g r ihr=>
     intro hg;obtain⟨g1,g2,g3⟩:=ih g (hg g (by simp)).1 (hg g (by simp)).2;obtain⟨r1,r2⟩:=ihr fun g' h'=>hg g' (by simp[h']);rw[tolXs,wXs_cons,ndTs];refine⟨by omega,fun y hy=>?_⟩;rcases List.mem_cons.1 hy with rfl | hy
     ·exact⟨g2,g3⟩
     ·exact r2 y hy
  obtain⟨k1,k2⟩:=key s fun g hg=>⟨by have:=FT.lt (k:=k) (a:=x) hg;omega,shTs_mem h3 g hg⟩
  refine⟨?_,swX_of fun y hy=>?_,.sub ?_ fun y hy=>?_⟩
  ·rw[wX_mk,wXs_cons,wX_wd];simp only[List.length_nil];omega
  ·rcases List.mem_cons.1 hy with rfl | hy
   ·exact swX_wd (by omega)
   ·exact(k2 y hy).1
  ·show kindX (kindW k)≠0;rw[kind_W h1];omega
  ·rcases List.mem_cons.1 hy with rfl | hy
   ·exact .small (wd_short _ (by omega))
   ·exact(k2 y hy).2
theorem sd_short{s:Rat×Rat}(h:Bd 256 s.1∧Bd 256 s.2):wX (sdT s)≤16010∧swX (sdT s)∧kX (sdT s)≤40000000:=by
 have h1:=printL_bd (h.1.mono (by decide));have h2:=printL_bd (h.2.mono (by decide));have ew:wX (sdT s)≤16010:=by
  unfold sdT;rw[wX_mk,wXs_cons,wXs_cons,wXs_nil,wX_wd,wX_wd];simp only[List.length_nil];omega
 have ec:cX (sdT s)=3:=by
  unfold sdT;rw[cX_mk,cXs_cons,cXs_cons,cXs_nil,cX_wd,cX_wd]
 refine⟨ew,?_,by unfold kX;rw[ec];omega⟩;unfold sdT;refine swX_of fun x hx=>?_;simp only[List.mem_cons,List.not_mem_nil,or_false]at hx;rcases hx with rfl | rfl<;>exact swX_wd (by omega)
structure shP(p:PP)(i:Int):Prop where
 io:1≤i∧i≤32
 b:∀ s∈p.box,Bd 256 s.1∧Bd 256 s.2
 n:(p.box.length:Int)=i
 a:∀ a∈p.ats,shA a
 s:shT p.bad p.ats.length=true
 d:ndT p.bad≤20000
theorem rows_short{p:PP}{i:Int}(h:shP p i):wXs (rowsP p i)≤3000000000:=by
 have hn:=h.n;have hi:=h.io;have hb:wXs (p.box.map sdT)≤32*16010:=by
  refine Nat.le_trans (wXs_le (B:=16010) fun x hx=>?_) (Nat.mul_le_mul_right _ (by rw[List.length_map];omega));obtain⟨t,ht,rfl⟩:=List.mem_map.1 hx;exact(sd_short (h.b t ht)).1
 have ht:=(tol_short (i:=i) (by omega) h.a _ p.bad (Nat.lt_succ_self _) h.s).1;have hd:=h.d;unfold rowsP;rw[wXs_cons,wXs_cons,wXs_nil,wX_mk,wX_mk,wXs_cons,wXs_cons,wXs_cons,wXs_nil,wX_wd,wX_wd];simp only[List.length_cons,List.length_nil];omega
theorem rows_fine{p:PP}{i:Int}(h:shP p i)(hd:ndT p.bad≤190):(∀s∈rowsP p i,swX s)∧∀ c∈rowsP p i,∀f,(headX c).2=[f]→fbX f∧wX f≤40000000:=by
 have hi:=h.io;obtain⟨t1,t2,t3⟩:=tol_short (i:=i) (by omega) h.a _ p.bad (Nat.lt_succ_self _) h.s;unfold rowsP;refine⟨fun s hs=>?_,fun c hc f hf=>?_⟩
 ·simp only[List.mem_cons,List.not_mem_nil,or_false]at hs;rcases hs with rfl | rfl
  ·refine swX_of fun x hx=>?_;rcases List.mem_cons.1 hx with rfl | hx
   ·exact swX_wd (by decide)
   ·obtain⟨t,ht,rfl⟩:=List.mem_map.1 hx;exact(sd_short (h.b t ht)).2.1
  ·refine swX_of fun x hx=>?_;simp only[List.mem_cons,List.not_mem_nil,or_false]at hx;rcases hx with rfl | rfl
   ·exact swX_wd (by decide)
   ·exact t2
 ·simp only[List.mem_cons,List.not_mem_nil,or_false]at hc;rcases hc with rfl | rfl
  ·have e:p.box.map sdT=[f]:=hf;have hm:f∈p.box.map sdT:=by rw[e];simp
   obtain⟨t,ht,rfl⟩:=List.mem_map.1 hm;have:=sd_short (h.b t ht);exact⟨.small this.2.2,by omega⟩
  ·have e:[tolX p.ats i p.bad]=[f]:=hf;injection e with e;subst e;exact⟨t3,by omega⟩
theorem nf_wd(w:List UInt8):nfX (wdT w):=by unfold wdT;rw[nfX_mk,nfXs];exact⟨fun _=>rfl,(fun h=>nomatch h),trivial⟩
theorem nf_l{l:List ST}(h:∀ x∈l,nfX x):nfX (.mk false [] l):=by
 rw[nfX_mk];exact⟨(fun h=>nomatch h),fun _=>rfl,nfXs_all h⟩
theorem nf_cmp(i:Int)(a:At):nfX (cmpT i a):=by
 unfold cmpT;refine nf_l fun x hx=>?_;simp only[List.mem_cons,List.not_mem_nil,or_false]at hx;rcases hx with rfl | rfl | rfl
 ·exact nf_wd _
 ·refine nf_l fun x hx=>?_;rcases List.mem_cons.1 hx with rfl | hx
  ·exact nf_wd _
  ·obtain⟨t,ht,rfl⟩:=List.mem_map.1 hx;unfold tmT;refine nf_l fun x hx=>?_;simp only[List.mem_cons,List.not_mem_nil,or_false]at hx;rcases hx with rfl | rfl | rfl<;>exact nf_wd _
 ·exact nf_wd _
mutual
theorem nf_tol(ats:List At)(i:Int):∀ f:FT,nfX (tolX ats i f)
 | .mk k a s=>by
   rw[tolX_mk];split
   ·exact nf_cmp i _
   ·split
    ·exact nf_wd _
    ·split
     ·exact nf_wd _
     ·refine nf_l fun x hx=>?_;rcases List.mem_cons.1 hx with rfl | hx
      ·exact nf_wd _
      ·exact nf_tols ats i s x hx
theorem nf_tols(ats:List At)(i:Int):∀ s:List FT,∀x∈tolXs ats i s,nfX x
 | [],x,hx=>by rw[tolXs]at hx;cases hx
 | f::r,x,hx=>by
   rw[tolXs]at hx;rcases List.mem_cons.1 hx with rfl | hx
   ·exact nf_tol ats i f
   ·exact nf_tols ats i r x hx
end
theorem nf_rows(p:PP)(i:Int):∀ s∈rowsP p i,nfX s:=by
 unfold rowsP;intro s hs;simp only[List.mem_cons,List.not_mem_nil,or_false]at hs;rcases hs with rfl | rfl
 ·refine nf_l fun x hx=>?_;rcases List.mem_cons.1 hx with rfl | hx
  ·exact nf_wd _
  ·obtain⟨t,ht,rfl⟩:=List.mem_map.1 hx;unfold sdT;refine nf_l fun x hx=>?_;simp only[List.mem_cons,List.not_mem_nil,or_false]at hx;rcases hx with rfl | rfl<;>exact nf_wd _
 ·refine nf_l fun x hx=>?_;simp only[List.mem_cons,List.not_mem_nil,or_false]at hx;rcases hx with rfl | rfl
  ·exact nf_wd _
  ·exact nf_tol _ _ _
theorem wdAll{l:List ST}(h:wdXs l=true):∀ s∈l,wdX s=true:=by
 induction l with
 | nil=>intro s hs;cases hs
 | cons x r ih=>
   rw[wdXs,Bool.and_eq_true]at h;intro s hs;rcases List.mem_cons.1 hs with rfl | hs
   ·exact h.1
   ·exact ih h.2 s hs
theorem text_parse{p:PP}{i:Int}(hc:chX (rowsP p i)=0):∃ m,parseX ((allX (rowsP p i)).length+1) 0 (allX (rowsP p i)) 0= .ok (rowsP p i) [] m:=by
 unfold chX at hc;split at hc
 ·rename_i h1;split at hc
  ·rename_i h2;exact⟨_,parse_all (rowsP p i) (nf_rows p i) (wdAll h2) _ 0 (Nat.lt_succ_self _) h1⟩
  ·cases hc
 ·cases hc
theorem text_fine{p:PP}{i:Int}(h:shP p i)(hd:ndT p.bad≤190)(hc:chX (rowsP p i)=0):fineX (allX (rowsP p i)):=by
 intro l r m hl;obtain⟨m',e⟩:=text_parse hc;rw[e]at hl;cases hl;exact rows_fine h hd
theorem text_par{p:PP}{i o:Int}(h0:chkPP p i o=0)(hd:ndT p.bad≤190)(hc:chX (rowsP p i)=0)(hl:(allX (rowsP p i)).length≤1000000):parPR (allX (rowsP p i)) i o=[.g (enPP (bkP p)),.d (.v (.int .i64 0))]:=by
 obtain⟨m',e⟩:=text_parse hc;unfold parPR;rw[if_neg (by omega),e];dsimp only;rw[rows_parse h0];unfold resP;dsimp only;rw[if_pos (chk_back h0 hd)]
end Go.Proofs.YthdkkpocihkgbaaGreatDoor
