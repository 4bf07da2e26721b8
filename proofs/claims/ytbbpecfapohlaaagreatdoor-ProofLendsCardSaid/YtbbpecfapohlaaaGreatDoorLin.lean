import Derived.Test.YtbbpecfapohlaaaGreatDoorSo
import Derived.Test.YtbbpecfapohlaaaGreatDoorRef8
import Derived.Test.YtbbpecfapohlaaaGreatDoorTb
set_option maxRecDepth 100000
set_option maxHeartbeats 4000000
namespace Go.Proofs.YtbbpecfapohlaaaGreatDoor
open Go.RowKit
attribute [local irreducible] AC Do St
theorem perm_of_map{α β:Type}{f:α→β}{ys xs':List β}(h:ys.Perm xs'):∀ xs:List α,xs'=xs.map f→∃ ts:List α,ys=ts.map f∧ts.Perm xs:=by
 induction h with
 | nil=>intro xs h;exact⟨[],rfl,by cases xs with | nil=>exact .refl _ | cons=>cases h⟩
 | cons x _ ih=>
   intro xs h;cases xs with
   | nil=>cases h
   | cons t xs1=>
     rw[List.map_cons]at h;injection h with h1 h2;obtain⟨ts,e1,e2⟩:=ih xs1 h2;exact⟨t::ts,by rw[e1,h1,List.map_cons],e2.cons t⟩
 | swap x y l=>
   intro xs h
   match xs,h with
   | t1::t2::r,h=>
     simp only[List.map_cons,List.cons.injEq]at h;obtain⟨h1,h2,h3⟩:=h;exact⟨t2::t1::r,by simp[h1,h2,h3],.swap t1 t2 r⟩
 | trans _ _ ih1 ih2=>
   intro xs h;obtain⟨ts,e1,e2⟩:=ih2 xs h;obtain⟨us,e3,e4⟩:=ih1 ts e1;exact⟨us,e3,e4.trans e2⟩
theorem enR_fg(q:Rat):(enR q).map D.fg=enR q:=by
 unfold enR enL;rfl
theorem enT_tm(t:Tm):tm (enT t):=⟨⟨t.1,_,_,_,rfl⟩,by unfold enT;rw[List.map_cons,enR_fg];rfl⟩
noncomputable def canL (l:List Tm):List Tm:=by
 classical
 exact if h:∃ o,Form o∧∀ v,coef o v=coef l v then h.choose else []
theorem canL_eq{o l:List Tm}(h1:Form o)(h2:∀ v,coef o v=coef l v):canL l=o:=by
 have h:∃ o,Form o∧∀ v,coef o v=coef l v:=⟨o,h1,h2⟩
 unfold canL;rw[dif_pos h];exact form_inj h.choose_spec.1 h1 fun v=>by rw[h.choose_spec.2,h2]
theorem coef_takeS{l:List Tm}{i:Nat}(hi:i<l.length)(v:Int):coef (l.take (i+1)) v=coef (l.take i) v+if l[i].1=v then l[i].2 else 0:=by
 rw[List.take_succ_eq_append_getElem hi,coef_append,coef,coef];grind
structure CanO(ts outs:List Tm)(i:Nat):Prop where
 le:i≤ts.length
 form:Form outs
 co:∀ v,coef outs v=coef (ts.take i) v
 from_:∀ t∈outs,∃j,∃h:j<ts.length,j<i∧ts[j].1=t.1
 up:∀ j j' (h:j<ts.length) (h':j'<ts.length),j<i→i≤j'→ts[j].1<ts[j'].1
structure CanI(ts:List Tm)(i0 i:Nat)(v:Int)(c:Rat):Prop where
 ge:i0≤i
 le:i≤ts.length
 grp:∀ j (h:j<ts.length),i0≤j→j<i→ts[j].1=v
 co:c=coef (ts.take i) v
 ne:∀ u,u≠v→coef (ts.take i) u=coef (ts.take i0) u
theorem CanI.step{ts:List Tm}{i0 i:Nat}{v:Int}{c:Rat}(h:CanI ts i0 i v c)(hi:i<ts.length)(hv:ts[i].1=v):CanI ts i0 (i+1) v (c+ts[i].2):=
 ⟨by have:=h.ge;omega,hi,fun j hj h1 h2=>by
  by_cases e:j=i
  ·subst e;exact hv
  ·exact h.grp j hj h1 (by omega),by rw[coef_takeS hi,if_pos hv,←h.co],fun u hu=>by
  rw[coef_takeS hi,if_neg (by rw[hv];exact Ne.symm hu),h.ne u hu];grind⟩
theorem CanO.zero{ts outs:List Tm}{i:Nat}(h:CanO ts outs i)(hi:i<ts.length):coef (ts.take i) ts[i].1=0:=
 coef_none fun t ht=>by
  obtain⟨j,hj,rfl⟩:=List.getElem_of_mem ht;have hj':j<i:=by simp at hj;omega
  rw[List.getElem_take];have:=h.up j i (by omega) hi hj' (Nat.le_refl _);omega
theorem CanO.start{ts outs:List Tm}{i:Nat}(h:CanO ts outs i)(hi:i<ts.length):CanI ts i i ts[i].1 0:=
 ⟨Nat.le_refl _,h.le,fun j hj h1 h2=>by omega,(h.zero hi).symm,fun _ _=>rfl⟩
theorem CanO.next{ts outs:List Tm}{i i':Nat}{c:Rat}(h:CanO ts outs i)(hi:i<ts.length)(hg:CanI ts i i' ts[i].1 c)(hii:i<i')(hs:∀ j j' (h:j<ts.length) (h':j'<ts.length),j<j'→ts[j].1≤ts[j'].1)(hend:∀ h:i'<ts.length,ts[i'].1≠ts[i].1):
  (c≠0→CanO ts (outs++[(ts[i].1,c)]) i')∧(c=0→CanO ts outs i'):=by
 have hup:∀ j j' (h:j<ts.length) (h':j'<ts.length),j<i'→i'≤j'→ts[j].1<ts[j'].1:=fun j j' hj hj' h1 h2=>by
  have e1:ts[j].1≤ts[i].1:=by
   by_cases e:j<i
   ·have:=h.up j i hj hi e (Nat.le_refl _);omega
   ·rw[hg.grp j hj (by omega) h1];exact Int.le_refl _
  have hl:i'<ts.length:=by omega
  have e2:=hs i i' hi hl hii;have e3:=hend hl;have e4:ts[i'].1≤ts[j'].1:=by
   by_cases e:i'=j'
   ·subst e;exact Int.le_refl _
   ·exact hs i' j' hl hj' (by omega)
  omega
 have hfr:∀ t∈outs,∃j,∃h:j<ts.length,j<i'∧ts[j].1=t.1:=fun t ht=>by
  obtain⟨j,hj,h1,h2⟩:=h.from_ t ht;exact⟨j,hj,by omega,h2⟩
 have hlt:∀ t∈outs,t.1<ts[i].1:=fun t ht=>by
  obtain⟨j,hj,h1,h2⟩:=h.from_ t ht;rw[←h2];exact h.up j i hj hi h1 (Nat.le_refl _)
 refine⟨fun hc=>⟨hg.le,⟨List.pairwise_append.2 ⟨h.form.1,List.pairwise_singleton _ _,fun a ha b hb=>?_⟩,fun t ht=>?_⟩,fun v=>?_,fun t ht=>?_,hup⟩,fun hc=>⟨hg.le,h.form,fun v=>?_,hfr,hup⟩⟩
 ·rw[List.mem_singleton.1 hb];exact hlt a ha
 ·rcases List.mem_append.1 ht with h1 | h1
  ·exact h.form.2 t h1
  ·rw[List.mem_singleton.1 h1];exact hc
 ·rw[coef_append,coef,coef,h.co];by_cases e:ts[i].1=v
  ·rw[if_pos e,←e,h.zero hi,←hg.co];grind
  ·rw[if_neg e,hg.ne v (Ne.symm e)];grind
 ·rcases List.mem_append.1 ht with h1 | h1
  ·exact hfr t h1
  ·rw[List.mem_singleton.1 h1];exact⟨i,hi,hii,rfl⟩
 ·rw[h.co];by_cases e:v=ts[i].1
  ·rw[e,h.zero hi,←hg.co,hc]
  ·rw[hg.ne v e]
end Go.Proofs.YtbbpecfapohlaaaGreatDoor
namespace Go.Proofs.YtbbpecfapohlaaaGreatDoor
open Go.RowKit
def fgA:AV→AV
 | .d c=> .d c.fg
 | v=>v
theorem St.fgBox{C:Cx}{σ:AS}{a:Act}{w:World}(id:Nat){T:TypeId}{cs:List AV}(hO:get? σ.objs id=some (.box T cs))(hs:St C σ a w):St C ⟨σ.env,(id,.box T (cs.map fgA))::σ.objs⟩ a w:=by
 obtain⟨β,hi⟩:=hs;refine⟨_,hi.upd (w':=w) id (.box T cs) (.box T (cs.map fgA)) hO (β id) rfl rfl rfl (Nat.le_refl _) (fun _ _ _=>rfl) (fun b hb=>⟨.inl hb,(hi.own id _ b hO hb).2⟩) rfl fun hD hA=>?_⟩;obtain⟨b,us,q1,q2,q3,q4,q5⟩:=hi.obj id _ hO;refine⟨b,us,by simpa[bset] using q1,q2,by simpa using q3,q4,fun i h1 h2=>?_⟩;rw[List.getElem_map];have:=hA (q5 i h1 (by simpa using h2));cases e:cs[i]with
 | d c=>rw[e]at this;exact RD.fg this
 | _=>rw[e]at this;exact this
theorem AC.fgBox{P:Program}{C:Cx}{σ:AS}{c:Code}{Q:Exit→AS→Prop}(id:Nat){T:TypeId}{cs:List AV}(hO:get? σ.objs id=some (.box T cs))(h:AC P C c Q ⟨σ.env,(id,.box T (cs.map fgA))::σ.objs⟩):AC P C c Q σ:= .weak _ (fun _ _ hs=>hs.fgBox id hO) h
theorem enR_zero:enR 0=[.v (.bool false),.l [],.l []]:=by
 unfold enR enL denL;simp[limbs,digs]
end Go.Proofs.YtbbpecfapohlaaaGreatDoor
namespace Go.Proofs.YtbbpecfapohlaaaGreatDoor
open Go.RowKit
attribute [local irreducible] AC Do St
theorem sgn_ne{c:Rat}(h:c≠0):¬ sgnR c=0:=by
 unfold sgnR;have:c.num≠0:=fun h1=>h (Rat.num_eq_zero.1 h1);split<;>(try split)<;>omega
theorem canTF(e:Ex)(hk:tb e.t+2≤50000000):Fn Tryz.prog 191 [.g (enE e)] [.g (enE ⟨canL e.t,e.c⟩)]:=by
 have hlen:e.t.length≤50000000:=by have:=tb_len e.t;omega
 refine Fn.of Tryz.func191 rfl (by kernel_rfl) Tryz.ntmps191 Tryz.results191 rfl fun w0 S0=>?_;refine wk ?_;((try (first | intro K ms hms hK | intro K hK));(first | apply Chain.ef | apply Chain.efD);exact rfl;exact rfl;exact Do.callRow (cloneF (xs:=e.t.map enT) (fun c hc=>by obtain⟨t,_,rfl⟩:=List.mem_map.1 hc;rfl) (by simp;omega)) rfl ⟨.inl rfl,trivial⟩ rfl;exact rfl;exact rfl);refine wk ?_;((try (first | intro K ms hms hK | intro K hK));refine Chain.callS rfl rfl (sortF (xs:=e.t.map enT) (fun c hc=>by obtain⟨t,_,rfl⟩:=List.mem_map.1 hc;exact enT_tm t) (by simp;omega)) rfl rfl rfl ?_ ?_;(focus ((repeat (first | exact trivial | refine⟨.inl rfl,?_⟩ | refine⟨.inr rfl,?_⟩)))));rintro zs ⟨hmv,hsr⟩;obtain⟨ts,rfl,hperm⟩:=perm_of_map hmv.perm e.t rfl;have htl:ts.length=e.t.length:=hperm.length_eq;have htb:tb ts=tb e.t:=tb_perm hperm;have hso:∀ j j' (h:j<ts.length) (h':j'<ts.length),j<j'→ts[j].1≤ts[j'].1:=fun j j' h h' hj=>by
  have:=hsr j j' (Nat.zero_le _) hj (by simp;omega);rw[←kat_get (by simpa using h),←kat_get (by simpa using h')]at this;simpa[enT,ky] using this
 clear hmv hsr
 (repeat (first
   | refine Chain.no rfl rfl ?_
   | refine Chain.noD rfl rfl ?_
   | ((first | apply Chain.go | apply Chain.goD);exact rfl;exact rfl;first
     | exact Loc.move (v:= .d _) rfl rfl
     | exact Loc.assign (v:= .d _) rfl rfl
     | exact Loc.loadP1 rfl rfl rfl rfl
     | exact Loc.loadQ1 rfl rfl rfl
     | exact Loc.fieldP rfl rfl rfl
     | exact Loc.fieldQ rfl rfl
     | exact Loc.pickT (v:= .d _) rfl rfl rfl
     | exact Loc.pickF (v:= .d _) rfl rfl rfl
     | exact Loc.loadPn rfl rfl rfl rfl (by kernel_rfl)
     | exact Loc.loadQw rfl rfl rfl
     | exact Loc.loadQn rfl rfl rfl rfl
     | exact Loc.idxM rfl rfl rfl rfl (by assumption) rfl
     | exact Loc.lenM rfl rfl
     | exact Loc.lenN rfl rfl
     | exact Loc.lenR rfl rfl rfl
     | exact Loc.len rfl rfl
     | exact Loc.lssT rfl rfl rfl (by omega)
     | exact Loc.lssF rfl rfl rfl (by omega)
     | exact Loc.eqlT rfl rfl rfl (by omega)
     | exact Loc.eqlF rfl rfl rfl (by omega)
     | exact Loc.neqT rfl rfl rfl (by omega)
     | exact Loc.neqF rfl rfl rfl (by omega)
     | exact Loc.gtrT rfl rfl rfl (by omega)
     | exact Loc.gtrF rfl rfl rfl (by omega)
     | exact Loc.geqT rfl rfl rfl (by omega)
     | exact Loc.geqF rfl rfl rfl (by omega)
     | exact Loc.leqT rfl rfl rfl (by omega)
     | exact Loc.leqF rfl rfl rfl (by omega)
     | exact Loc.add rfl rfl rfl (IntWalk.i64_in _ (by omega))
     | exact Loc.sub rfl rfl rfl (IntWalk.i64_in _ (by omega))
     | exact Loc.notT rfl rfl
     | exact Loc.notF rfl rfl
     | exact Loc.fieldE rfl rfl rfl
     | exact Loc.loadE1 rfl rfl rfl (by assumption) rfl
     | exact Loc.idxR rfl rfl rfl rfl rfl (by omega) rfl
     | exact Loc.move (v:= .g _) rfl rfl
     | exact Loc.move (v:= .p _ _) rfl rfl
     | exact Loc.move (v:= .r _ _) rfl rfl
     | exact Loc.move (v:= .t _) rfl rfl
     | exact Loc.assign (v:= .g _) rfl rfl
     | exact Loc.assign (v:= .r _ _) rfl rfl
     | exact Loc.assign (v:= .p _ _) rfl rfl
     | exact Loc.extract (v:= .d _) rfl rfl rfl rfl
     | exact Loc.extract (v:= .g _) rfl rfl rfl rfl
     | exact Loc.pickT (v:= .g _) rfl rfl rfl
     | exact Loc.pickF (v:= .g _) rfl rfl rfl
     | exact Loc.move (v:= .un) rfl rfl
     | exact Loc.build rfl rfl rfl rfl
     | exact Loc.litP rfl rfl rfl rfl rfl rfl rfl)
   | refine Chain.nil0 (hK _ ?_)
   | ((first | apply Chain.st | apply Chain.stD);exact rfl;exact rfl;(first
     | exact Do.storeP rfl rfl rfl rfl .g rfl rfl rfl
     | exact Do.storeP rfl rfl rfl rfl .d rfl rfl rfl
     | exact Do.storeP rfl rfl rfl rfl (.r rfl) rfl rfl rfl);exact rfl;exact rfl)
   | ((first | apply Chain.ef | apply Chain.efD);exact rfl;exact rfl;(first
     | exact Do.alloc rfl rfl rfl
     | exact Do.box rfl rfl rfl .g rfl
     | exact Do.box rfl rfl rfl .d rfl
     | exact Do.lit0 rfl rfl
     | exact Do.append1 rfl rfl rfl rfl rfl rfl (by first | omega | (simp;omega))
     | exact Do.appendN1 rfl rfl rfl rfl rfl rfl);exact rfl;exact rfl)
   | refine Chain.nilD (by rw[hms];kernel_rfl) (hK _ ?_)
   | refine Chain.noN rfl rfl ?_))
 refine AC.seq ?_;refine AC.reg (by decide+kernel) ?_;(first | intro K ms hms hK | intro K hK)
 (repeat (first
   | refine Chain.no rfl rfl ?_
   | refine Chain.noD rfl rfl ?_
   | ((first | apply Chain.go | apply Chain.goD);exact rfl;exact rfl;first
     | exact Loc.move (v:= .d _) rfl rfl
     | exact Loc.assign (v:= .d _) rfl rfl
     | exact Loc.loadP1 rfl rfl rfl rfl
     | exact Loc.loadQ1 rfl rfl rfl
     | exact Loc.fieldP rfl rfl rfl
     | exact Loc.fieldQ rfl rfl
     | exact Loc.pickT (v:= .d _) rfl rfl rfl
     | exact Loc.pickF (v:= .d _) rfl rfl rfl
     | exact Loc.loadPn rfl rfl rfl rfl (by kernel_rfl)
     | exact Loc.loadQw rfl rfl rfl
     | exact Loc.loadQn rfl rfl rfl rfl
     | exact Loc.idxM rfl rfl rfl rfl (by assumption) rfl
     | exact Loc.lenM rfl rfl
     | exact Loc.lenN rfl rfl
     | exact Loc.lenR rfl rfl rfl
     | exact Loc.len rfl rfl
     | exact Loc.lssT rfl rfl rfl (by omega)
     | exact Loc.lssF rfl rfl rfl (by omega)
     | exact Loc.eqlT rfl rfl rfl (by omega)
     | exact Loc.eqlF rfl rfl rfl (by omega)
     | exact Loc.neqT rfl rfl rfl (by omega)
     | exact Loc.neqF rfl rfl rfl (by omega)
     | exact Loc.gtrT rfl rfl rfl (by omega)
     | exact Loc.gtrF rfl rfl rfl (by omega)
     | exact Loc.geqT rfl rfl rfl (by omega)
     | exact Loc.geqF rfl rfl rfl (by omega)
     | exact Loc.leqT rfl rfl rfl (by omega)
     | exact Loc.leqF rfl rfl rfl (by omega)
     | exact Loc.add rfl rfl rfl (IntWalk.i64_in _ (by omega))
     | exact Loc.sub rfl rfl rfl (IntWalk.i64_in _ (by omega))
     | exact Loc.notT rfl rfl
     | exact Loc.notF rfl rfl
     | exact Loc.fieldE rfl rfl rfl
     | exact Loc.loadE1 rfl rfl rfl (by assumption) rfl
     | exact Loc.idxR rfl rfl rfl rfl rfl (by omega) rfl
     | exact Loc.move (v:= .g _) rfl rfl
     | exact Loc.move (v:= .p _ _) rfl rfl
     | exact Loc.move (v:= .r _ _) rfl rfl
     | exact Loc.move (v:= .t _) rfl rfl
     | exact Loc.assign (v:= .g _) rfl rfl
     | exact Loc.assign (v:= .r _ _) rfl rfl
     | exact Loc.assign (v:= .p _ _) rfl rfl
     | exact Loc.extract (v:= .d _) rfl rfl rfl rfl
     | exact Loc.extract (v:= .g _) rfl rfl rfl rfl
     | exact Loc.pickT (v:= .g _) rfl rfl rfl
     | exact Loc.pickF (v:= .g _) rfl rfl rfl
     | exact Loc.move (v:= .un) rfl rfl
     | exact Loc.build rfl rfl rfl rfl
     | exact Loc.litP rfl rfl rfl rfl rfl rfl rfl)
   | refine Chain.nil0 (hK _ ?_)
   | ((first | apply Chain.st | apply Chain.stD);exact rfl;exact rfl;(first
     | exact Do.storeP rfl rfl rfl rfl .g rfl rfl rfl
     | exact Do.storeP rfl rfl rfl rfl .d rfl rfl rfl
     | exact Do.storeP rfl rfl rfl rfl (.r rfl) rfl rfl rfl);exact rfl;exact rfl)
   | ((first | apply Chain.ef | apply Chain.efD);exact rfl;exact rfl;(first
     | exact Do.alloc rfl rfl rfl
     | exact Do.box rfl rfl rfl .g rfl
     | exact Do.box rfl rfl rfl .d rfl
     | exact Do.lit0 rfl rfl
     | exact Do.append1 rfl rfl rfl rfl rfl rfl (by first | omega | (simp;omega))
     | exact Do.appendN1 rfl rfl rfl rfl rfl rfl);exact rfl;exact rfl)
   | refine Chain.nilD (by rw[hms];kernel_rfl) (hK _ ?_)
   | refine Chain.noN rfl rfl ?_))
 have hml:(ts.map enT).length=ts.length:=by simp
 refine AC.rowVar 4 53 178 4 rfl rfl ?_;refine wk ?_;refine AC.loop (X:=Nat×List Tm) (fun x=>⟨[(1,.p 1 0),(2,.p 2 0),(3,.r 10 0),(4,.r 53 x.2.length),(5,.d (.v (.int .i64 ((x.1:Nat):Int))))],[(1,.box 106 ((enE e).map .d)),(2,.box 106 (constAVs [.slice none 0 0,.bool false,.slice none 0 0,.slice none 0 0])),(10,.row 0 178 4 (ts.map enT)),(53,.row x.2.length 178 4 (x.2.map enT))]⟩) (fun x=>CanO ts x.2 x.1∧x.2.length≤x.1) (fun x=>ts.length-x.1) (0,[]) ⟨⟨Nat.zero_le _,⟨.nil,by simp⟩,fun _=>rfl,by simp,fun j j' _ _ h=>absurd h (Nat.not_lt_zero _)⟩,Nat.le_refl _⟩ ⟨rfl,rfl,rfl,rfl,rfl,trivial⟩ ⟨rfl,rfl,rfl,rfl,trivial⟩ ?_;rintro ⟨i,outs⟩ ⟨hO,hol⟩;dsimp only at hO hol ⊢;refine wk ?_;(first | intro K ms hms hK | intro K hK);refine s1 (fun h1=>?_) (fun h1=>?_)
 ·have hi:i<ts.length:=by omega
  have hgi:(ts.map enT)[i]?=some (enT ts[i]):=by rw[List.getElem?_map,List.getElem?_eq_getElem hi];rfl
  (repeat (first
    | refine Chain.no rfl rfl ?_
    | refine Chain.noD rfl rfl ?_
    | ((first | apply Chain.go | apply Chain.goD);exact rfl;exact rfl;first
      | exact Loc.move (v:= .d _) rfl rfl
      | exact Loc.assign (v:= .d _) rfl rfl
      | exact Loc.loadP1 rfl rfl rfl rfl
      | exact Loc.loadQ1 rfl rfl rfl
      | exact Loc.fieldP rfl rfl rfl
      | exact Loc.fieldQ rfl rfl
      | exact Loc.pickT (v:= .d _) rfl rfl rfl
      | exact Loc.pickF (v:= .d _) rfl rfl rfl
      | exact Loc.loadPn rfl rfl rfl rfl (by kernel_rfl)
      | exact Loc.loadQw rfl rfl rfl
      | exact Loc.loadQn rfl rfl rfl rfl
      | exact Loc.idxM rfl rfl rfl rfl (by assumption) rfl
      | exact Loc.lenM rfl rfl
      | exact Loc.lenN rfl rfl
      | exact Loc.lenR rfl rfl rfl
      | exact Loc.len rfl rfl
      | exact Loc.lssT rfl rfl rfl (by omega)
      | exact Loc.lssF rfl rfl rfl (by omega)
      | exact Loc.eqlT rfl rfl rfl (by omega)
      | exact Loc.eqlF rfl rfl rfl (by omega)
      | exact Loc.neqT rfl rfl rfl (by omega)
      | exact Loc.neqF rfl rfl rfl (by omega)
      | exact Loc.gtrT rfl rfl rfl (by omega)
      | exact Loc.gtrF rfl rfl rfl (by omega)
      | exact Loc.geqT rfl rfl rfl (by omega)
      | exact Loc.geqF rfl rfl rfl (by omega)
      | exact Loc.leqT rfl rfl rfl (by omega)
      | exact Loc.leqF rfl rfl rfl (by omega)
      | exact Loc.add rfl rfl rfl (IntWalk.i64_in _ (by omega))
      | exact Loc.sub rfl rfl rfl (IntWalk.i64_in _ (by omega))
      | exact Loc.notT rfl rfl
      | exact Loc.notF rfl rfl
      | exact Loc.fieldE rfl rfl rfl
      | exact Loc.loadE1 rfl rfl rfl (by assumption) rfl
      | exact Loc.idxR rfl rfl rfl rfl rfl (by omega) rfl
      | exact Loc.move (v:= .g _) rfl rfl
      | exact Loc.move (v:= .p _ _) rfl rfl
      | exact Loc.move (v:= .r _ _) rfl rfl
      | exact Loc.move (v:= .t _) rfl rfl
      | exact Loc.assign (v:= .g _) rfl rfl
      | exact Loc.assign (v:= .r _ _) rfl rfl
      | exact Loc.assign (v:= .p _ _) rfl rfl
      | exact Loc.extract (v:= .d _) rfl rfl rfl rfl
      | exact Loc.extract (v:= .g _) rfl rfl rfl rfl
      | exact Loc.pickT (v:= .g _) rfl rfl rfl
      | exact Loc.pickF (v:= .g _) rfl rfl rfl
      | exact Loc.move (v:= .un) rfl rfl
      | exact Loc.build rfl rfl rfl rfl
      | exact Loc.litP rfl rfl rfl rfl rfl rfl rfl)
    | refine Chain.nil0 (hK _ ?_)
    | ((first | apply Chain.st | apply Chain.stD);exact rfl;exact rfl;(first
      | exact Do.storeP rfl rfl rfl rfl .g rfl rfl rfl
      | exact Do.storeP rfl rfl rfl rfl .d rfl rfl rfl
      | exact Do.storeP rfl rfl rfl rfl (.r rfl) rfl rfl rfl);exact rfl;exact rfl)
    | ((first | apply Chain.ef | apply Chain.efD);exact rfl;exact rfl;(first
      | exact Do.alloc rfl rfl rfl
      | exact Do.box rfl rfl rfl .g rfl
      | exact Do.box rfl rfl rfl .d rfl
      | exact Do.lit0 rfl rfl
      | exact Do.append1 rfl rfl rfl rfl rfl rfl (by first | omega | (simp;omega))
      | exact Do.appendN1 rfl rfl rfl rfl rfl rfl);exact rfl;exact rfl)
    | refine Chain.nilD (by rw[hms];kernel_rfl) (hK _ ?_)
    | refine Chain.noN rfl rfl ?_))
  refine AC.condT rfl ?_;refine wk ?_;refine AC.fgBox 6 rfl ?_;refine AC.loop (X:=Nat×Rat) (fun x=>⟨[(1,.p 1 0),(2,.p 2 0),(3,.r 10 0),(4,.r 53 outs.length),(5,.d (.v (.int .i64 ((x.1:Nat):Int)))),(6,.p 6 0),(7,.d (.v (.int .i64 ts[i].1)))],[(6,.box 104 ((enR x.2).map .d)),(1,.box 106 ((enE e).map .d)),(2,.box 106 (constAVs [.slice none 0 0,.bool false,.slice none 0 0,.slice none 0 0])),(10,.row 0 178 4 (ts.map enT)),(53,.row outs.length 178 4 (outs.map enT))]⟩) (fun x=>CanI ts i x.1 ts[i].1 x.2) (fun x=>ts.length-x.1) (i,0) (hO.start hi) ⟨rfl,rfl,rfl,rfl,rfl,rfl,rfl,trivial⟩ ⟨by dsimp only;rw[enR_zero];rfl,rfl,rfl,rfl,rfl,trivial⟩ ?_;rintro ⟨j,c⟩ hI;dsimp only at hI ⊢;have hge:=hI.ge;refine wk ?_;(first | intro K ms hms hK | intro K hK);refine s1 (fun h2=>?_) (fun h2=>?_)
  ·have hj:j<ts.length:=by omega
   have hgj:(ts.map enT)[j]?=some (enT ts[j]):=by rw[List.getElem?_map,List.getElem?_eq_getElem hj];rfl
   refine wk ?_;refine s1 (fun h3=>?_) (fun h3=>?_)
   ·have hb1:Bd (tb (ts.take j)+1) c:=by rw[hI.co];exact coef_tb _ _
    have hb2:tb (ts.take j)+1+bz ts[j].2≤50000000:=by have:=tb_at hj;omega
    refine wk ?_;((try (first | intro K ms hms hK | intro K hK));(first | apply Chain.go | apply Chain.goD);exact rfl;exact rfl;exact Loc.loadEn rfl rfl rfl hgj (ds:=enR ts[j].2) rfl rfl);refine c1 (ratAdd hb1 (bd_bz _) hb2) ?_;refine wk ?_;exact⟨(j+1,c+ts[j].2),hI.step hj h3,by dsimp only;omega,⟨rfl,rfl,rfl,rfl,rfl,rfl,rfl,trivial⟩,⟨rfl,rfl,rfl,rfl,rfl,trivial⟩⟩
   ·have hij:i<j:=by
     rcases Nat.lt_or_ge i j with h | h
     ·exact h
     ·have e1:j=i:=by omega
      subst e1;exact absurd rfl h3
    have hnx:=hO.next hi hI hij hso (fun _=>h3);refine wk ?_;refine c1 (ratSign c) ?_;refine s1 (fun h4=>?_) (fun h4=>?_)
    ·have hc:c≠0:=fun h=>h4 (by rw[h];rfl);have hout:(outs.map enT).length=outs.length:=by simp
     refine wk ?_;exact⟨(j,outs++[(ts[i].1,c)]),⟨hnx.1 hc,by simp;omega⟩,by dsimp only;omega,⟨rfl,rfl,rfl,by dsimp only;rw[List.length_append];rfl,rfl,trivial⟩,⟨rfl,rfl,rfl,by dsimp only;rw[List.map_append,List.length_append];rfl,trivial⟩⟩
    ·have hc:c=0:=Classical.byContradiction fun h=>h4 (sgn_ne h);refine wk ?_;exact⟨(j,outs),⟨hnx.2 hc,by dsimp only;omega⟩,by dsimp only;omega,⟨rfl,rfl,rfl,rfl,rfl,trivial⟩,⟨rfl,rfl,rfl,rfl,trivial⟩⟩
  ·have hij:i<j:=by omega
   have hnx:=hO.next hi hI hij hso (fun h=>absurd h (by omega));refine wk ?_;refine c1 (ratSign c) ?_;refine s1 (fun h4=>?_) (fun h4=>?_)
   ·have hc:c≠0:=fun h=>h4 (by rw[h];rfl);have hout:(outs.map enT).length=outs.length:=by simp
    refine wk ?_;exact⟨(j,outs++[(ts[i].1,c)]),⟨hnx.1 hc,by simp;omega⟩,by dsimp only;omega,⟨rfl,rfl,rfl,by dsimp only;rw[List.length_append];rfl,rfl,trivial⟩,⟨rfl,rfl,rfl,by dsimp only;rw[List.map_append,List.length_append];rfl,trivial⟩⟩
   ·have hc:c=0:=Classical.byContradiction fun h=>h4 (sgn_ne h);refine wk ?_;exact⟨(j,outs),⟨hnx.2 hc,by dsimp only;omega⟩,by dsimp only;omega,⟨rfl,rfl,rfl,rfl,rfl,trivial⟩,⟨rfl,rfl,rfl,rfl,trivial⟩⟩
 ·have hit:ts.take i=ts:=List.take_of_length_le (by omega);have hcan:canL e.t=outs:=canL_eq hO.form fun v=>by rw[hO.co,hit,coef_perm hperm]
  (repeat (first
    | refine Chain.no rfl rfl ?_
    | refine Chain.noD rfl rfl ?_
    | ((first | apply Chain.go | apply Chain.goD);exact rfl;exact rfl;first
      | exact Loc.move (v:= .d _) rfl rfl
      | exact Loc.assign (v:= .d _) rfl rfl
      | exact Loc.loadP1 rfl rfl rfl rfl
      | exact Loc.loadQ1 rfl rfl rfl
      | exact Loc.fieldP rfl rfl rfl
      | exact Loc.fieldQ rfl rfl
      | exact Loc.pickT (v:= .d _) rfl rfl rfl
      | exact Loc.pickF (v:= .d _) rfl rfl rfl
      | exact Loc.loadPn rfl rfl rfl rfl (by kernel_rfl)
      | exact Loc.loadQw rfl rfl rfl
      | exact Loc.loadQn rfl rfl rfl rfl
      | exact Loc.idxM rfl rfl rfl rfl (by assumption) rfl
      | exact Loc.lenM rfl rfl
      | exact Loc.lenN rfl rfl
      | exact Loc.lenR rfl rfl rfl
      | exact Loc.len rfl rfl
      | exact Loc.lssT rfl rfl rfl (by omega)
      | exact Loc.lssF rfl rfl rfl (by omega)
      | exact Loc.eqlT rfl rfl rfl (by omega)
      | exact Loc.eqlF rfl rfl rfl (by omega)
      | exact Loc.neqT rfl rfl rfl (by omega)
      | exact Loc.neqF rfl rfl rfl (by omega)
      | exact Loc.gtrT rfl rfl rfl (by omega)
      | exact Loc.gtrF rfl rfl rfl (by omega)
      | exact Loc.geqT rfl rfl rfl (by omega)
      | exact Loc.geqF rfl rfl rfl (by omega)
      | exact Loc.leqT rfl rfl rfl (by omega)
      | exact Loc.leqF rfl rfl rfl (by omega)
      | exact Loc.add rfl rfl rfl (IntWalk.i64_in _ (by omega))
      | exact Loc.sub rfl rfl rfl (IntWalk.i64_in _ (by omega))
      | exact Loc.notT rfl rfl
      | exact Loc.notF rfl rfl
      | exact Loc.fieldE rfl rfl rfl
      | exact Loc.loadE1 rfl rfl rfl (by assumption) rfl
      | exact Loc.idxR rfl rfl rfl rfl rfl (by omega) rfl
      | exact Loc.move (v:= .g _) rfl rfl
      | exact Loc.move (v:= .p _ _) rfl rfl
      | exact Loc.move (v:= .r _ _) rfl rfl
      | exact Loc.move (v:= .t _) rfl rfl
      | exact Loc.assign (v:= .g _) rfl rfl
      | exact Loc.assign (v:= .r _ _) rfl rfl
      | exact Loc.assign (v:= .p _ _) rfl rfl
      | exact Loc.extract (v:= .d _) rfl rfl rfl rfl
      | exact Loc.extract (v:= .g _) rfl rfl rfl rfl
      | exact Loc.pickT (v:= .g _) rfl rfl rfl
      | exact Loc.pickF (v:= .g _) rfl rfl rfl
      | exact Loc.move (v:= .un) rfl rfl
      | exact Loc.build rfl rfl rfl rfl
      | exact Loc.litP rfl rfl rfl rfl rfl rfl rfl)
    | refine Chain.nil0 (hK _ ?_)
    | ((first | apply Chain.st | apply Chain.stD);exact rfl;exact rfl;(first
      | exact Do.storeP rfl rfl rfl rfl .g rfl rfl rfl
      | exact Do.storeP rfl rfl rfl rfl .d rfl rfl rfl
      | exact Do.storeP rfl rfl rfl rfl (.r rfl) rfl rfl rfl);exact rfl;exact rfl)
    | ((first | apply Chain.ef | apply Chain.efD);exact rfl;exact rfl;(first
      | exact Do.alloc rfl rfl rfl
      | exact Do.box rfl rfl rfl .g rfl
      | exact Do.box rfl rfl rfl .d rfl
      | exact Do.lit0 rfl rfl
      | exact Do.append1 rfl rfl rfl rfl rfl rfl (by first | omega | (simp;omega))
      | exact Do.appendN1 rfl rfl rfl rfl rfl rfl);exact rfl;exact rfl)
    | refine Chain.nilD (by rw[hms];kernel_rfl) (hK _ ?_)
    | refine Chain.noN rfl rfl ?_))
  refine AC.condF rfl ?_;refine AC.exit ?_;refine AC.frzVar 4 rfl rfl ?_;refine wk ?_;rw[hcan];exact⟨.cn rfl rfl inferInstance rfl ⟨.inl rfl,.inl rfl,.inl rfl,.inl rfl,trivial⟩,trivial⟩
end Go.Proofs.YtbbpecfapohlaaaGreatDoor
namespace Go.Proofs.YtbbpecfapohlaaaGreatDoor
open Go.RowKit
attribute [local irreducible] AC Do St
noncomputable def addE (a b:Ex):Ex:=⟨canL (a.t++b.t),a.c+b.c⟩
theorem canF(e:Ex)(k:Nat)(ht:∀ t∈e.t,Bd k t.2)(hk:(e.t.length+2)*(k+1)≤50000000):Fn Tryz.prog 191 [.g (enE e)] [.g (enE ⟨canL e.t,e.c⟩)]:=canTF e (by
 have:=tb_bd ht;have e1:(e.t.length+2)*(k+1)=e.t.length*(k+1)+2*(k+1):=Nat.add_mul ..;omega)
theorem addTF(a b:Ex)(hk:tb a.t+tb b.t+2≤50000000)(hkk:bz a.c+bz b.c≤50000000):Fn Tryz.prog 130 [.g (enE a),.g (enE b)] [.g (enE (addE a b))]:=by
 have hlen:a.t.length+b.t.length≤50000000:=by have:=tb_len a.t;have:=tb_len b.t;omega
 have hap:a.t.map enT++b.t.map enT=(a.t++b.t).map enT:=by simp
 refine Fn.of Tryz.func130 rfl (by kernel_rfl) Tryz.ntmps130 Tryz.results130 rfl fun w0 S0=>?_;refine wk ?_;((try (first | intro K ms hms hK | intro K hK));(first | apply Chain.ef | apply Chain.efD);exact rfl;exact rfl;exact Do.callRow (cloneF (xs:=a.t.map enT) (fun c hc=>by obtain⟨t,_,rfl⟩:=List.mem_map.1 hc;rfl) (by simp;omega)) rfl ⟨.inl rfl,trivial⟩ rfl;exact rfl;exact rfl);refine wk ?_;((try (first | intro K ms hms hK | intro K hK));(first | apply Chain.ef | apply Chain.efD);exact rfl;exact rfl;exact Do.append rfl rfl rfl rfl rfl (fun c hc=>by obtain⟨t,_,rfl⟩:=List.mem_map.1 hc;rfl) (by simp;omega);exact rfl;exact rfl);rw[hap];refine wk ?_;refine c1 (ratAdd (bd_bz a.c) (bd_bz b.c) hkk) ?_;((try (first | intro K ms hms hK | intro K hK));(first | apply Chain.ef | apply Chain.efD);exact rfl;exact rfl;exact Do.frz 10 rfl rfl (by decide) (by simp) (Loc.build rfl rfl rfl rfl);exact rfl;exact rfl);refine c1 (canTF ⟨a.t++b.t,a.c+b.c⟩ (by rw[tb_app];exact hk)) ?_;refine wk ?_;exact⟨.cn rfl rfl inferInstance rfl ⟨.inl rfl,.inl rfl,.inl rfl,.inl rfl,trivial⟩,trivial⟩
end Go.Proofs.YtbbpecfapohlaaaGreatDoor
namespace Go.Proofs.YtbbpecfapohlaaaGreatDoor
open Go.RowKit
attribute [local irreducible] AC Do St
def mulT(r:Rat)(t:Tm):Tm:=(t.1,r*t.2)
noncomputable def scaleE (r:Rat)(e:Ex):Ex:=⟨canL (e.t.map (mulT r)),r*e.c⟩
theorem scaleTF(r:Rat)(e:Ex)(hk:tb (e.t.map (mulT r))+2≤50000000)(ht:∀ t∈e.t,bz r+bz t.2≤50000000)(hc:bz r+bz e.c≤50000000):Fn Tryz.prog 131 [.g (enR r),.g (enE e)] [.g (enE (scaleE r e))]:=by
 have hlen:e.t.length≤50000000:=by have:=tb_len (e.t.map (mulT r));rw[List.length_map]at this;omega
 refine Fn.of Tryz.func131 rfl (by kernel_rfl) Tryz.ntmps131 Tryz.results131 rfl fun w0 S0=>?_;refine wk ?_;refine c1 (ratMul (bd_bz r) (bd_bz e.c) hc) ?_;refine wk ?_;refine AC.rowBox 5 0 30 178 4 rfl rfl rfl ?_;refine AC.loop (X:=Nat) (fun i=>⟨[(2,.p 2 0),(4,.p 4 0),(5,.p 5 0),(14,.d (.l (e.t.map enT))),(15,.d (.v (.int .i64 (e.t.length:Int)))),(16,.d (.v (.int .i64 (i:Int))))],[(2,.box 104 ((enR r).map .d)),(4,.box 106 [.d .n,.d (.v (.bool false)),.d .n,.d .n]),(5,.box 106 (.r 30 i::(enR (r*e.c)).map .d)),(30,.row i 178 4 ((e.t.take i).map fun t=>enT (mulT r t)))]⟩) (fun i=>i≤e.t.length) (fun i=>e.t.length-i) 0 (Nat.zero_le _) ⟨rfl,rfl,rfl,rfl,rfl,rfl,trivial⟩ ⟨rfl,rfl,rfl,rfl,trivial⟩ ?_;intro i hi;refine wk ?_;(first | intro K ms hms hK | intro K hK);refine s1 (fun h1=>?_) (fun h1=>?_)
 ·have hi':i<e.t.length:=by omega
  have hget:e.t[i]?=some e.t[i]:=List.getElem?_eq_getElem hi';have hts:((e.t.take (i+1)).map fun t=>enT (mulT r t))=((e.t.take i).map fun t=>enT (mulT r t))++[enT (mulT r e.t[i])]:=by
   rw[List.take_succ_eq_append_getElem hi',List.map_append];rfl
  refine wk ?_;refine c1 (ratMul (bd_bz r) (bd_bz _) (ht _ (List.getElem_mem hi'))) ?_;refine wk ?_;refine⟨i+1,by omega,by omega,⟨rfl,rfl,rfl,rfl,rfl,rfl,trivial⟩,⟨rfl,rfl,rfl,by rw[hts];rfl,trivial⟩⟩
 ·have hend:e.t.take i=e.t:=List.take_of_length_le (by omega);have hmm:(e.t.map fun t=>enT (mulT r t))=(e.t.map (mulT r)).map enT:=by simp
  refine wk ?_;(first | intro K ms hms hK | intro K hK);refine Chain.frzBox 5 0 rfl rfl rfl ?_;rw[hend,hmm];refine wk ?_;refine c1 (canTF ⟨e.t.map (mulT r),r*e.c⟩ hk) ?_;refine wk ?_;exact⟨.cn rfl rfl inferInstance rfl ⟨.inl rfl,.inl rfl,.inl rfl,.inl rfl,trivial⟩,trivial⟩
theorem scaleF(r:Rat)(e:Ex)(m k:Nat)(hr:Bd m r)(ht:∀ t∈e.t,Bd k t.2)(hc:Bd k e.c)(hk:(e.t.length+2)*(m+k+1)≤50000000):Fn Tryz.prog 131 [.g (enR r),.g (enE e)] [.g (enE (scaleE r e))]:=by
 have h1:=tb_bd (k:=m+k) (l:=e.t.map (mulT r)) fun t h=>by obtain⟨x,hx,rfl⟩:=List.mem_map.1 h;exact hr.mul (ht x hx)
 rw[List.length_map]at h1;have h2:=bz_le hr;have h3:=bz_le hc;have e1:(e.t.length+2)*(m+k+1)=e.t.length*(m+k+1)+2*(m+k+1):=Nat.add_mul ..;exact scaleTF r e (by omega) (fun t h=>by have:=bz_le (ht t h);omega) (by omega)
end Go.Proofs.YtbbpecfapohlaaaGreatDoor
namespace Go.Proofs.YtbbpecfapohlaaaGreatDoor
open Go.RowKit
attribute [local irreducible] AC Do St
noncomputable def subE (a b:Ex):Ex:=addE a (scaleE (-1) b)
theorem subTF(a b:Ex)(h1:tb (b.t.map (mulT (-1)))+2≤50000000)(h2:∀ t∈b.t,bz t.2≤40000000)(h3:bz b.c≤40000000)(h4:tb a.t+tb (scaleE (-1) b).t+2≤50000000)(h5:bz a.c+bz (scaleE (-1) b).c≤50000000):Fn Tryz.prog 70 [.g (enE a),.g (enE b)] [.g (enE (subE a b))]:=by
 have hm1:bz (-1:Rat)≤1:=bz_le ⟨by decide,by decide⟩;refine Fn.of Tryz.func70 rfl (by kernel_rfl) Tryz.ntmps70 Tryz.results70 rfl fun w0 S0=>?_;refine wk ?_;refine c1 (ratInt (-1) (by omega) (by omega)) ?_;refine wk ?_;refine c1 (scaleTF (-1) b h1 (fun t h=>by have:=h2 t h;omega) (by omega)) ?_;refine wk ?_;refine c1 (addTF a (scaleE (-1) b) h4 h5) ?_;refine wk ?_;exact⟨.cn rfl rfl inferInstance rfl ⟨.inl rfl,.inl rfl,.inl rfl,.inl rfl,trivial⟩,trivial⟩
end Go.Proofs.YtbbpecfapohlaaaGreatDoor
namespace Go.Proofs.YtbbpecfapohlaaaGreatDoor
open Go.RowKit
attribute [local irreducible] AC Do St
end Go.Proofs.YtbbpecfapohlaaaGreatDoor
namespace Go.Proofs.YtbbpecfapohlaaaGreatDoor
open Go.RowKit
attribute [local irreducible] AC Do St
def insC(t:Tm):List Tm→List Tm
 | []=>if t.2=0 then []else [t]
 | u::l=>if t.1<u.1 then(if t.2=0 then u::l else t::u::l)else if t.1=u.1 then(if t.2+u.2=0 then l else(u.1,t.2+u.2)::l)else u::insC t l
theorem insC_low{t:Tm}{b:Int}:∀ {l:List Tm},b<t.1→(∀u∈l,b<u.1)→∀ u∈insC t l,b<u.1
 | [],hb,_,u,hu=>by
   unfold insC at hu;split at hu
   ·cases hu
   ·rw[List.mem_singleton.1 hu];exact hb
 | v::l,hb,h,u,hu=>by
   unfold insC at hu;have hv:=h v (by simp);have hl:∀ u∈l,b<u.1:=fun u hu=>h u (by simp[hu]);split at hu
   ·split at hu
    ·exact h u hu
    ·rcases List.mem_cons.1 hu with h1 | h1
     ·rw[h1];exact hb
     ·exact h u h1
   ·split at hu
    ·split at hu
     ·exact hl u hu
     ·rcases List.mem_cons.1 hu with h1 | h1
      ·rw[h1];exact hv
      ·exact hl u h1
    ·rcases List.mem_cons.1 hu with h1 | h1
     ·rw[h1];exact hv
     ·exact insC_low hb hl u h1
theorem insC_form{t:Tm}:∀ {l:List Tm},Form l→Form (insC t l)∧∀ v,coef (insC t l) v=coef (t::l) v
 | [],_=>by
   unfold insC;split
   ·rename_i h;exact⟨⟨.nil,by simp⟩,fun v=>by simp only[coef,h];grind⟩
   ·rename_i h;exact⟨⟨List.pairwise_singleton _ _,fun x hx=>by rw[List.mem_singleton.1 hx];exact h⟩,fun _=>rfl⟩
 | u::l,hf=>by
   obtain⟨ih1,ih2⟩:=insC_form (t:=t) hf.tail;have hp:=List.pairwise_cons.1 hf.1;unfold insC;split
   ·rename_i h1;split
    ·rename_i h;exact⟨hf,fun v=>by simp only[coef,h];grind⟩
    ·rename_i h;refine⟨⟨List.pairwise_cons.2 ⟨fun x hx=>?_,hf.1⟩,fun x hx=>?_⟩,fun _=>rfl⟩
     ·rcases List.mem_cons.1 hx with h2 | h2
      ·rw[h2];exact h1
      ·have:=hp.1 x h2;omega
     ·rcases List.mem_cons.1 hx with h2 | h2
      ·rw[h2];exact h
      ·exact hf.2 x h2
   ·rename_i h1;split
    ·rename_i h2;split
     ·rename_i h;exact⟨hf.tail,fun v=>by simp only[coef,h2];grind⟩
     ·rename_i h;refine⟨⟨List.pairwise_cons.2 ⟨fun x hx=>hp.1 x hx,hf.tail.1⟩,fun x hx=>?_⟩,fun v=>by simp only[coef,h2];grind⟩;rcases List.mem_cons.1 hx with h3 | h3
      ·rw[h3];exact h
      ·exact hf.2 x (by simp[h3])
    ·rename_i h2;refine⟨⟨List.pairwise_cons.2 ⟨fun x hx=>insC_low (by omega) hp.1 x hx,ih1.1⟩,fun x hx=>?_⟩,fun v=>?_⟩
     ·rcases List.mem_cons.1 hx with h3 | h3
      ·rw[h3];exact hf.2 u (by simp)
      ·exact ih1.2 x h3
     ·rw[coef,ih2];simp only[coef];grind
theorem insC_len(t:Tm):∀ l:List Tm,(insC t l).length≤l.length+1
 | []=>by unfold insC;split<;>simp
 | u::l=>by
   have:=insC_len t l;unfold insC
   repeat' split
   all_goals simp
   all_goals omega
theorem can_ex:∀ l:List Tm,∃o,Form o∧(∀v,coef o v=coef l v)∧o.length≤l.length
 | []=>⟨[],⟨.nil,by simp⟩,fun _=>rfl,Nat.le_refl _⟩
 | t::l=>by
   obtain⟨o,h1,h2,h3⟩:=can_ex l;obtain⟨q1,q2⟩:=insC_form (t:=t) h1;exact⟨insC t o,q1,fun v=>by rw[q2,coef,coef,h2],by have:=insC_len t o;simp;omega⟩
theorem canL_spec(l:List Tm):Form (canL l)∧(∀v,coef (canL l) v=coef l v)∧(canL l).length≤l.length:=by
 obtain⟨o,h1,h2,h3⟩:=can_ex l;rw[canL_eq h1 h2];exact⟨h1,h2,h3⟩
theorem canL_bd{k:Nat}{l:List Tm}(h:∀ t∈l,Bd k t.2):∀ t∈canL l,Bd ((l.length+1)*(k+1)) t.2:=fun t ht=>by
 obtain⟨h1,h2,_⟩:=canL_spec l;have key:∀ o:List Tm,Form o→t∈o→coef o t.1=t.2:=by
  intro o
  induction o with
  | nil=>intro _ h;cases h
  | cons u o ih=>
    intro h1 ht;rcases List.mem_cons.1 ht with h3 | h3
    ·rw[h3];exact h1.head
    ·have:=(List.pairwise_cons.1 h1.1).1 t h3;rw[coef,if_neg (by omega),ih h1.tail h3];grind
 have hc:=key _ h1 ht;have:=coef_bd h t.1 l.length (Nat.le_refl _);rw[List.take_length]at this;rw[←hc,h2];exact this
end Go.Proofs.YtbbpecfapohlaaaGreatDoor
