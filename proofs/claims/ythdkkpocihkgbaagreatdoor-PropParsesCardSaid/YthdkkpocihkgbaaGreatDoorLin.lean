import Derived.Test.YthdkkpocihkgbaaGreatDoorSo
set_option maxRecDepth 100000
set_option maxHeartbeats 4000000
namespace Go.Proofs.YthdkkpocihkgbaaGreatDoor
open Go.RowKit
attribute [local irreducible] AC Do St
theorem ve{α β:Type}{f:α→β}{ys xs':List β}(h:ys.Perm xs'):∀ xs:List α,xs'=xs.map f→∃ ts:List α,ys=ts.map f∧ts.Perm xs:=by
 induction h with
 | nil=>intro xs h;exact⟨[],rfl,by cases xs with | nil=>exact .refl _ | cons=>cases h⟩
 | cons x _ ih=>
   intro xs h;cases xs with
   | nil=>cases h
   | cons t xs1=>
     rw[List.map_cons]at h;injection h with h1 h2;obtain⟨ts,e1,e2⟩:=ih xs1 h2;exact⟨t::ts,by rw[e1,h1,List.map_cons],e2.cons t⟩
 | swap x y l=>
   intro xs h
   match xs,h with
   | t1::t2::r,h=>
     simp only[List.map_cons,List.cons.injEq]at h;obtain⟨h1,h2,h3⟩:=h;exact⟨t2::t1::r,by simp[h1,h2,h3],.swap t1 t2 r⟩
 | trans _ _ ih1 ih2=>
   intro xs h;obtain⟨ts,e1,e2⟩:=ih2 xs h;obtain⟨us,e3,e4⟩:=ih1 ts e1;exact⟨us,e3,e4.trans e2⟩
theorem Cy(q:Rat):(aN q).map D.fg=aN q:=by
 unfold aN aJ;rfl
theorem Co(t:Tm):tm (dw t):=⟨⟨t.1,_,_,_,rfl⟩,by unfold dw;rw[List.map_cons,Cy];rfl⟩
noncomputable def dU (l:List Tm):List Tm:=by
 classical
 exact if h:∃ o,Form o∧∀ v,ar o v=ar l v then h.choose else []
theorem ku{o l:List Tm}(h1:Form o)(h2:∀ v,ar o v=ar l v):dU l=o:=by
 have h:∃ o,Form o∧∀ v,ar o v=ar l v:=⟨o,h1,h2⟩
 unfold dU;rw[dif_pos h];exact tD h.choose_spec.1 h1 fun v=>by rw[h.choose_spec.2,h2]
theorem pK{l:List Tm}{i:Nat}(hi:i<l.length)(v:Int):ar (l.take (i+1)) v=ar (l.take i) v+if l[i].1=v then l[i].2 else 0:=by
 rw[List.take_succ_eq_append_getElem hi,gy,ar,ar];grind
structure CanO(ts outs:List Tm)(i:Nat):Prop where
 le:i≤ts.length
 form:Form outs
 co:∀ v,ar outs v=ar (ts.take i) v
 from_:∀ t∈outs,∃j,∃h:j<ts.length,j<i∧ts[j].1=t.1
 up:∀ j j' (h:j<ts.length) (h':j'<ts.length),j<i→i≤j'→ts[j].1<ts[j'].1
structure CanI(ts:List Tm)(i0 i:Nat)(v:Int)(c:Rat):Prop where
 ge:i0≤i
 le:i≤ts.length
 grp:∀ j (h:j<ts.length),i0≤j→j<i→ts[j].1=v
 co:c=ar (ts.take i) v
 ne:∀ u,u≠v→ar (ts.take i) u=ar (ts.take i0) u
theorem CanI.step{ts:List Tm}{i0 i:Nat}{v:Int}{c:Rat}(h:CanI ts i0 i v c)(hi:i<ts.length)(hv:ts[i].1=v):CanI ts i0 (i+1) v (c+ts[i].2):=
 ⟨by have:=h.ge;omega,hi,fun j hj h1 h2=>by
  by_cases e:j=i
  ·subst e;exact hv
  ·exact h.grp j hj h1 (by omega),by rw[pK hi,if_pos hv,←h.co],fun u hu=>by
  rw[pK hi,if_neg (by rw[hv];exact Ne.symm hu),h.ne u hu];grind⟩
theorem CanO.zero{ts outs:List Tm}{i:Nat}(h:CanO ts outs i)(hi:i<ts.length):ar (ts.take i) ts[i].1=0:=
 jW fun t ht=>by
  obtain⟨j,hj,rfl⟩:=List.getElem_of_mem ht;have hj':j<i:=by simp at hj;omega
  rw[List.getElem_take];have:=h.up j i (by omega) hi hj' (Nat.le_refl _);omega
theorem CanO.start{ts outs:List Tm}{i:Nat}(h:CanO ts outs i)(hi:i<ts.length):CanI ts i i ts[i].1 0:=
 ⟨Nat.le_refl _,h.le,fun j hj h1 h2=>by omega,(h.zero hi).symm,fun _ _=>rfl⟩
theorem CanO.next{ts outs:List Tm}{i i':Nat}{c:Rat}(h:CanO ts outs i)(hi:i<ts.length)(hg:CanI ts i i' ts[i].1 c)(hii:i<i')(hs:∀ j j' (h:j<ts.length) (h':j'<ts.length),j<j'→ts[j].1≤ts[j'].1)(hend:∀ h:i'<ts.length,ts[i'].1≠ts[i].1):
  (c≠0→CanO ts (outs++[(ts[i].1,c)]) i')∧(c=0→CanO ts outs i'):=by
 have hup:∀ j j' (h:j<ts.length) (h':j'<ts.length),j<i'→i'≤j'→ts[j].1<ts[j'].1:=fun j j' hj hj' h1 h2=>by
  have e1:ts[j].1≤ts[i].1:=by
   by_cases e:j<i
   ·have:=h.up j i hj hi e (Nat.le_refl _);omega
   ·rw[hg.grp j hj (by omega) h1];exact Int.le_refl _
  have hl:i'<ts.length:=by omega
  have e2:=hs i i' hi hl hii;have e3:=hend hl;have e4:ts[i'].1≤ts[j'].1:=by
   by_cases e:i'=j'
   ·subst e;exact Int.le_refl _
   ·exact hs i' j' hl hj' (by omega)
  omega
 have hfr:∀ t∈outs,∃j,∃h:j<ts.length,j<i'∧ts[j].1=t.1:=fun t ht=>by
  obtain⟨j,hj,h1,h2⟩:=h.from_ t ht;exact⟨j,hj,by omega,h2⟩
 have hlt:∀ t∈outs,t.1<ts[i].1:=fun t ht=>by
  obtain⟨j,hj,h1,h2⟩:=h.from_ t ht;rw[←h2];exact h.up j i hj hi h1 (Nat.le_refl _)
 refine⟨fun hc=>⟨hg.le,⟨List.pairwise_append.2 ⟨h.form.1,List.pairwise_singleton _ _,fun a ha b hb=>?_⟩,fun t ht=>?_⟩,fun v=>?_,fun t ht=>?_,hup⟩,fun hc=>⟨hg.le,h.form,fun v=>?_,hfr,hup⟩⟩
 ·rw[List.mem_singleton.1 hb];exact hlt a ha
 ·rcases List.mem_append.1 ht with h1 | h1
  ·exact h.form.2 t h1
  ·rw[List.mem_singleton.1 h1];exact hc
 ·rw[gy,ar,ar,h.co];by_cases e:ts[i].1=v
  ·rw[if_pos e,←e,h.zero hi,←hg.co];grind
  ·rw[if_neg e,hg.ne v (Ne.symm e)];grind
 ·rcases List.mem_append.1 ht with h1 | h1
  ·exact hfr t h1
  ·rw[List.mem_singleton.1 h1];exact⟨i,hi,hii,rfl⟩
 ·rw[h.co];by_cases e:v=ts[i].1
  ·rw[e,h.zero hi,←hg.co,hc]
  ·rw[hg.ne v e]
end Go.Proofs.YthdkkpocihkgbaaGreatDoor
namespace Go.Proofs.YthdkkpocihkgbaaGreatDoor
open Go.RowKit
def Ck:AV→AV
 | .d c=> .d c.fg
 | v=>v
theorem St.sN{C:Cx}{σ:AS}{a:Act}{w:World}(id:Nat){T:TypeId}{cs:List AV}(hO:af σ.objs id=some (.box T cs))(hs:St C σ a w):St C ⟨σ.env,(id,.box T (cs.map Ck))::σ.objs⟩ a w:=by
 obtain⟨β,hi⟩:=hs;refine⟨_,hi.di (w':=w) id (.box T cs) (.box T (cs.map Ck)) hO (β id) rfl rfl rfl (Nat.le_refl _) (fun _ _ _=>rfl) (fun b hb=>⟨.inl hb,(hi.own id _ b hO hb).2⟩) rfl fun hD hA=>?_⟩;obtain⟨b,us,q1,q2,q3,q4,q5⟩:=hi.obj id _ hO;refine⟨b,us,by simpa[ao] using q1,q2,by simpa using q3,q4,fun i h1 h2=>?_⟩;rw[List.getElem_map];have:=hA (q5 i h1 (by simpa using h2));cases e:cs[i]with
 | d c=>rw[e]at this;exact RD.fg this
 | _=>rw[e]at this;exact this
theorem AC.sN{P:Program}{C:Cx}{σ:AS}{c:Code}{Q:Exit→AS→Prop}(id:Nat){T:TypeId}{cs:List AV}(hO:af σ.objs id=some (.box T cs))(h:AC P C c Q ⟨σ.env,(id,.box T (cs.map Ck))::σ.objs⟩):AC P C c Q σ:= .weak _ (fun _ _ hs=>hs.sN id hO) h
theorem tp:aN 0=[.v (.bool false),.l [],.l []]:=by
 unfold aN aJ iG;simp[ae,bJ]
end Go.Proofs.YthdkkpocihkgbaaGreatDoor
namespace Go.Proofs.YthdkkpocihkgbaaGreatDoor
open Go.RowKit
attribute [local irreducible] AC Do St
theorem xA{c:Rat}(h:c≠0):¬ cL c=0:=by
 unfold cL;have:c.num≠0:=fun h1=>h (Rat.num_eq_zero.1 h1);split<;>(try split)<;>omega
theorem wO(e:Ex)(hk:tb e.t+2≤50000000):Fn Tryz.prog 193 [.g (fc e)] [.g (fc ⟨dU e.t,e.c⟩)]:=by
 have hlen:e.t.length≤50000000:=by have:=kJ e.t;omega
 refine Fn.of Tryz.func193 rfl (by kernel_rfl) Tryz.ntmps193 Tryz.results193 rfl fun w0 S0=>?_;refine wk ?_;((try (first | intro K ms hms hK | intro K hK));(first | apply Ch.ef | apply Ch.bU);exact rfl;exact rfl;exact Do.ry (xV (xs:=e.t.map dw) (fun c hc=>by obtain⟨t,_,rfl⟩:=List.mem_map.1 hc;rfl) (by simp;omega)) rfl ⟨.inl rfl,trivial⟩ rfl;exact rfl;exact rfl);refine wk ?_;((try (first | intro K ms hms hK | intro K hK));refine Ch.gq rfl rfl (DJ (xs:=e.t.map dw) (fun c hc=>by obtain⟨t,_,rfl⟩:=List.mem_map.1 hc;exact Co t) (by simp;omega)) rfl rfl rfl ?_ ?_;(focus ((repeat (first | exact trivial | refine⟨.inl rfl,?_⟩ | refine⟨.inr rfl,?_⟩)))));rintro zs ⟨hmv,hsr⟩;obtain⟨ts,rfl,hperm⟩:=ve hmv.perm e.t rfl;have htl:ts.length=e.t.length:=hperm.length_eq;have htb:tb ts=tb e.t:=Bw hperm;have hso:∀ j j' (h:j<ts.length) (h':j'<ts.length),j<j'→ts[j].1≤ts[j'].1:=fun j j' h h' hj=>by
  have:=hsr j j' (Nat.zero_le _) hj (by simp;omega);rw[←oC (by simpa using h),←oC (by simpa using h')]at this;simpa[dw,ky] using this
 clear hmv hsr
 (repeat (first
   | refine Ch.no rfl rfl ?_
   | refine Ch.iX rfl rfl ?_
   | ((first | apply Ch.go | apply Ch.ah);exact rfl;exact rfl;first
     | exact Loc.move (v:= .d _) rfl rfl
     | exact Loc.assign (v:= .d _) rfl rfl
     | exact Loc.c7 rfl rfl rfl rfl
     | exact Loc.cU rfl rfl rfl
     | exact Loc.cY rfl rfl rfl
     | exact Loc.cV rfl rfl
     | exact Loc.bh (v:= .d _) rfl rfl rfl
     | exact Loc.bk (v:= .d _) rfl rfl rfl
     | exact Loc.cz rfl rfl rfl rfl (by kernel_rfl)
     | exact Loc.cZ rfl rfl rfl
     | exact Loc.cQ rfl rfl rfl rfl
     | exact Loc.ea rfl rfl rfl rfl (by assumption) rfl
     | exact Loc.fN rfl rfl
     | exact Loc.fP rfl rfl
     | exact Loc.fM rfl rfl rfl
     | exact Loc.len rfl rfl
     | exact Loc.eb rfl rfl rfl (by omega)
     | exact Loc.eG rfl rfl rfl (by omega)
     | exact Loc.ec rfl rfl rfl (by omega)
     | exact Loc.eE rfl rfl rfl (by omega)
     | exact Loc.eP rfl rfl rfl (by omega)
     | exact Loc.eM rfl rfl rfl (by omega)
     | exact Loc.eD rfl rfl rfl (by omega)
     | exact Loc.eF rfl rfl rfl (by omega)
     | exact Loc.gn rfl rfl rfl (by omega)
     | exact Loc.gp rfl rfl rfl (by omega)
     | exact Loc.gG rfl rfl rfl (by omega)
     | exact Loc.gH rfl rfl rfl (by omega)
     | exact Loc.add rfl rfl rfl (IntWalk.i64_in _ (by omega))
     | exact Loc.sub rfl rfl rfl (IntWalk.i64_in _ (by omega))
     | exact Loc.fL rfl rfl
     | exact Loc.fJ rfl rfl
     | exact Loc.cW rfl rfl rfl
     | exact Loc.c8 rfl rfl rfl (by assumption) rfl
     | exact Loc.cB rfl rfl rfl rfl rfl (by omega) rfl
     | exact Loc.move (v:= .g _) rfl rfl
     | exact Loc.move (v:= .p _ _) rfl rfl
     | exact Loc.move (v:= .r _ _) rfl rfl
     | exact Loc.move (v:= .t _) rfl rfl
     | exact Loc.assign (v:= .g _) rfl rfl
     | exact Loc.assign (v:= .r _ _) rfl rfl
     | exact Loc.assign (v:= .p _ _) rfl rfl
     | exact Loc.extract (v:= .d _) rfl rfl rfl rfl
     | exact Loc.extract (v:= .g _) rfl rfl rfl rfl
     | exact Loc.bh (v:= .g _) rfl rfl rfl
     | exact Loc.bk (v:= .g _) rfl rfl rfl
     | exact Loc.move (v:= .un) rfl rfl
     | exact Loc.build rfl rfl rfl rfl
     | exact Loc.df rfl rfl rfl rfl rfl rfl rfl)
   | refine Ch.eO (hK _ ?_)
   | ((first | apply Ch.st | apply Ch.aU);exact rfl;exact rfl;(first
     | exact Do.aC rfl rfl rfl rfl .g rfl rfl rfl
     | exact Do.aC rfl rfl rfl rfl .d rfl rfl rfl
     | exact Do.aC rfl rfl rfl rfl (.r rfl) rfl rfl rfl);exact rfl;exact rfl)
   | ((first | apply Ch.ef | apply Ch.bU);exact rfl;exact rfl;(first
     | exact Do.alloc rfl rfl rfl
     | exact Do.box rfl rfl rfl .g rfl
     | exact Do.box rfl rfl rfl .d rfl
     | exact Do.fI rfl rfl
     | exact Do.ck rfl rfl rfl rfl rfl rfl (by first | omega | (simp;omega))
     | exact Do.bS rfl rfl rfl rfl rfl rfl);exact rfl;exact rfl)
   | refine Ch.fK (by rw[hms];kernel_rfl) (hK _ ?_)
   | refine Ch.iY rfl rfl ?_))
 refine AC.seq ?_;refine AC.mm (by decide+kernel) ?_;(first | intro K ms hms hK | intro K hK)
 (repeat (first
   | refine Ch.no rfl rfl ?_
   | refine Ch.iX rfl rfl ?_
   | ((first | apply Ch.go | apply Ch.ah);exact rfl;exact rfl;first
     | exact Loc.move (v:= .d _) rfl rfl
     | exact Loc.assign (v:= .d _) rfl rfl
     | exact Loc.c7 rfl rfl rfl rfl
     | exact Loc.cU rfl rfl rfl
     | exact Loc.cY rfl rfl rfl
     | exact Loc.cV rfl rfl
     | exact Loc.bh (v:= .d _) rfl rfl rfl
     | exact Loc.bk (v:= .d _) rfl rfl rfl
     | exact Loc.cz rfl rfl rfl rfl (by kernel_rfl)
     | exact Loc.cZ rfl rfl rfl
     | exact Loc.cQ rfl rfl rfl rfl
     | exact Loc.ea rfl rfl rfl rfl (by assumption) rfl
     | exact Loc.fN rfl rfl
     | exact Loc.fP rfl rfl
     | exact Loc.fM rfl rfl rfl
     | exact Loc.len rfl rfl
     | exact Loc.eb rfl rfl rfl (by omega)
     | exact Loc.eG rfl rfl rfl (by omega)
     | exact Loc.ec rfl rfl rfl (by omega)
     | exact Loc.eE rfl rfl rfl (by omega)
     | exact Loc.eP rfl rfl rfl (by omega)
     | exact Loc.eM rfl rfl rfl (by omega)
     | exact Loc.eD rfl rfl rfl (by omega)
     | exact Loc.eF rfl rfl rfl (by omega)
     | exact Loc.gn rfl rfl rfl (by omega)
     | exact Loc.gp rfl rfl rfl (by omega)
     | exact Loc.gG rfl rfl rfl (by omega)
     | exact Loc.gH rfl rfl rfl (by omega)
     | exact Loc.add rfl rfl rfl (IntWalk.i64_in _ (by omega))
     | exact Loc.sub rfl rfl rfl (IntWalk.i64_in _ (by omega))
     | exact Loc.fL rfl rfl
     | exact Loc.fJ rfl rfl
     | exact Loc.cW rfl rfl rfl
     | exact Loc.c8 rfl rfl rfl (by assumption) rfl
     | exact Loc.cB rfl rfl rfl rfl rfl (by omega) rfl
     | exact Loc.move (v:= .g _) rfl rfl
     | exact Loc.move (v:= .p _ _) rfl rfl
     | exact Loc.move (v:= .r _ _) rfl rfl
     | exact Loc.move (v:= .t _) rfl rfl
     | exact Loc.assign (v:= .g _) rfl rfl
     | exact Loc.assign (v:= .r _ _) rfl rfl
     | exact Loc.assign (v:= .p _ _) rfl rfl
     | exact Loc.extract (v:= .d _) rfl rfl rfl rfl
     | exact Loc.extract (v:= .g _) rfl rfl rfl rfl
     | exact Loc.bh (v:= .g _) rfl rfl rfl
     | exact Loc.bk (v:= .g _) rfl rfl rfl
     | exact Loc.move (v:= .un) rfl rfl
     | exact Loc.build rfl rfl rfl rfl
     | exact Loc.df rfl rfl rfl rfl rfl rfl rfl)
   | refine Ch.eO (hK _ ?_)
   | ((first | apply Ch.st | apply Ch.aU);exact rfl;exact rfl;(first
     | exact Do.aC rfl rfl rfl rfl .g rfl rfl rfl
     | exact Do.aC rfl rfl rfl rfl .d rfl rfl rfl
     | exact Do.aC rfl rfl rfl rfl (.r rfl) rfl rfl rfl);exact rfl;exact rfl)
   | ((first | apply Ch.ef | apply Ch.bU);exact rfl;exact rfl;(first
     | exact Do.alloc rfl rfl rfl
     | exact Do.box rfl rfl rfl .g rfl
     | exact Do.box rfl rfl rfl .d rfl
     | exact Do.fI rfl rfl
     | exact Do.ck rfl rfl rfl rfl rfl rfl (by first | omega | (simp;omega))
     | exact Do.bS rfl rfl rfl rfl rfl rfl);exact rfl;exact rfl)
   | refine Ch.fK (by rw[hms];kernel_rfl) (hK _ ?_)
   | refine Ch.iY rfl rfl ?_))
 have hml:(ts.map dw).length=ts.length:=by simp
 refine AC.j7 4 53 161 4 rfl rfl ?_;refine wk ?_;refine AC.loop (X:=Nat×List Tm) (fun x=>⟨[(1,.p 1 0),(2,.p 2 0),(3,.r 10 0),(4,.r 53 x.2.length),(5,.d (.v (.int .i64 ((x.1:Nat):Int))))],[(1,.box 155 ((fc e).map .d)),(2,.box 155 (gl [.slice none 0 0,.bool false,.slice none 0 0,.slice none 0 0])),(10,.row 0 161 4 (ts.map dw)),(53,.row x.2.length 161 4 (x.2.map dw))]⟩) (fun x=>CanO ts x.2 x.1∧x.2.length≤x.1) (fun x=>ts.length-x.1) (0,[]) ⟨⟨Nat.zero_le _,⟨.nil,by simp⟩,fun _=>rfl,by simp,fun j j' _ _ h=>absurd h (Nat.not_lt_zero _)⟩,Nat.le_refl _⟩ ⟨rfl,rfl,rfl,rfl,rfl,trivial⟩ ⟨rfl,rfl,rfl,rfl,trivial⟩ ?_;rintro ⟨i,outs⟩ ⟨hO,hol⟩;dsimp only at hO hol ⊢;refine wk ?_;(first | intro K ms hms hK | intro K hK);refine s1 (fun h1=>?_) (fun h1=>?_)
 ·have hi:i<ts.length:=by omega
  have hgi:(ts.map dw)[i]?=some (dw ts[i]):=by rw[List.getElem?_map,List.getElem?_eq_getElem hi];rfl
  (repeat (first
    | refine Ch.no rfl rfl ?_
    | refine Ch.iX rfl rfl ?_
    | ((first | apply Ch.go | apply Ch.ah);exact rfl;exact rfl;first
      | exact Loc.move (v:= .d _) rfl rfl
      | exact Loc.assign (v:= .d _) rfl rfl
      | exact Loc.c7 rfl rfl rfl rfl
      | exact Loc.cU rfl rfl rfl
      | exact Loc.cY rfl rfl rfl
      | exact Loc.cV rfl rfl
      | exact Loc.bh (v:= .d _) rfl rfl rfl
      | exact Loc.bk (v:= .d _) rfl rfl rfl
      | exact Loc.cz rfl rfl rfl rfl (by kernel_rfl)
      | exact Loc.cZ rfl rfl rfl
      | exact Loc.cQ rfl rfl rfl rfl
      | exact Loc.ea rfl rfl rfl rfl (by assumption) rfl
      | exact Loc.fN rfl rfl
      | exact Loc.fP rfl rfl
      | exact Loc.fM rfl rfl rfl
      | exact Loc.len rfl rfl
      | exact Loc.eb rfl rfl rfl (by omega)
      | exact Loc.eG rfl rfl rfl (by omega)
      | exact Loc.ec rfl rfl rfl (by omega)
      | exact Loc.eE rfl rfl rfl (by omega)
      | exact Loc.eP rfl rfl rfl (by omega)
      | exact Loc.eM rfl rfl rfl (by omega)
      | exact Loc.eD rfl rfl rfl (by omega)
      | exact Loc.eF rfl rfl rfl (by omega)
      | exact Loc.gn rfl rfl rfl (by omega)
      | exact Loc.gp rfl rfl rfl (by omega)
      | exact Loc.gG rfl rfl rfl (by omega)
      | exact Loc.gH rfl rfl rfl (by omega)
      | exact Loc.add rfl rfl rfl (IntWalk.i64_in _ (by omega))
      | exact Loc.sub rfl rfl rfl (IntWalk.i64_in _ (by omega))
      | exact Loc.fL rfl rfl
      | exact Loc.fJ rfl rfl
      | exact Loc.cW rfl rfl rfl
      | exact Loc.c8 rfl rfl rfl (by assumption) rfl
      | exact Loc.cB rfl rfl rfl rfl rfl (by omega) rfl
      | exact Loc.move (v:= .g _) rfl rfl
      | exact Loc.move (v:= .p _ _) rfl rfl
      | exact Loc.move (v:= .r _ _) rfl rfl
      | exact Loc.move (v:= .t _) rfl rfl
      | exact Loc.assign (v:= .g _) rfl rfl
      | exact Loc.assign (v:= .r _ _) rfl rfl
      | exact Loc.assign (v:= .p _ _) rfl rfl
      | exact Loc.extract (v:= .d _) rfl rfl rfl rfl
      | exact Loc.extract (v:= .g _) rfl rfl rfl rfl
      | exact Loc.bh (v:= .g _) rfl rfl rfl
      | exact Loc.bk (v:= .g _) rfl rfl rfl
      | exact Loc.move (v:= .un) rfl rfl
      | exact Loc.build rfl rfl rfl rfl
      | exact Loc.df rfl rfl rfl rfl rfl rfl rfl)
    | refine Ch.eO (hK _ ?_)
    | ((first | apply Ch.st | apply Ch.aU);exact rfl;exact rfl;(first
      | exact Do.aC rfl rfl rfl rfl .g rfl rfl rfl
      | exact Do.aC rfl rfl rfl rfl .d rfl rfl rfl
      | exact Do.aC rfl rfl rfl rfl (.r rfl) rfl rfl rfl);exact rfl;exact rfl)
    | ((first | apply Ch.ef | apply Ch.bU);exact rfl;exact rfl;(first
      | exact Do.alloc rfl rfl rfl
      | exact Do.box rfl rfl rfl .g rfl
      | exact Do.box rfl rfl rfl .d rfl
      | exact Do.fI rfl rfl
      | exact Do.ck rfl rfl rfl rfl rfl rfl (by first | omega | (simp;omega))
      | exact Do.bS rfl rfl rfl rfl rfl rfl);exact rfl;exact rfl)
    | refine Ch.fK (by rw[hms];kernel_rfl) (hK _ ?_)
    | refine Ch.iY rfl rfl ?_))
  refine AC.jg rfl ?_;refine wk ?_;refine AC.sN 6 rfl ?_;refine AC.loop (X:=Nat×Rat) (fun x=>⟨[(1,.p 1 0),(2,.p 2 0),(3,.r 10 0),(4,.r 53 outs.length),(5,.d (.v (.int .i64 ((x.1:Nat):Int)))),(6,.p 6 0),(7,.d (.v (.int .i64 ts[i].1)))],[(6,.box 119 ((aN x.2).map .d)),(1,.box 155 ((fc e).map .d)),(2,.box 155 (gl [.slice none 0 0,.bool false,.slice none 0 0,.slice none 0 0])),(10,.row 0 161 4 (ts.map dw)),(53,.row outs.length 161 4 (outs.map dw))]⟩) (fun x=>CanI ts i x.1 ts[i].1 x.2) (fun x=>ts.length-x.1) (i,0) (hO.start hi) ⟨rfl,rfl,rfl,rfl,rfl,rfl,rfl,trivial⟩ ⟨by dsimp only;rw[tp];rfl,rfl,rfl,rfl,rfl,trivial⟩ ?_;rintro ⟨j,c⟩ hI;dsimp only at hI ⊢;have hge:=hI.ge;refine wk ?_;(first | intro K ms hms hK | intro K hK);refine s1 (fun h2=>?_) (fun h2=>?_)
  ·have hj:j<ts.length:=by omega
   have hgj:(ts.map dw)[j]?=some (dw ts[j]):=by rw[List.getElem?_map,List.getElem?_eq_getElem hj];rfl
   refine wk ?_;refine s1 (fun h3=>?_) (fun h3=>?_)
   ·have hb1:Bd (tb (ts.take j)+1) c:=by rw[hI.co];exact qK _ _
    have hb2:tb (ts.take j)+1+bz ts[j].2≤50000000:=by have:=sF hj;omega
    refine wk ?_;((try (first | intro K ms hms hK | intro K hK));(first | apply Ch.go | apply Ch.ah);exact rfl;exact rfl;exact Loc.yY rfl rfl rfl hgj (ds:=aN ts[j].2) rfl rfl);refine c1 (pU hb1 (bw _) hb2) ?_;refine wk ?_;exact⟨(j+1,c+ts[j].2),hI.step hj h3,by dsimp only;omega,⟨rfl,rfl,rfl,rfl,rfl,rfl,rfl,trivial⟩,⟨rfl,rfl,rfl,rfl,rfl,trivial⟩⟩
   ·have hij:i<j:=by
     rcases Nat.lt_or_ge i j with h | h
     ·exact h
     ·have e1:j=i:=by omega
      subst e1;exact absurd rfl h3
    have hnx:=hO.next hi hI hij hso (fun _=>h3);refine wk ?_;refine c1 (oQ c) ?_;refine s1 (fun h4=>?_) (fun h4=>?_)
    ·have hc:c≠0:=fun h=>h4 (by rw[h];rfl);have hout:(outs.map dw).length=outs.length:=by simp
     refine wk ?_;exact⟨(j,outs++[(ts[i].1,c)]),⟨hnx.1 hc,by simp;omega⟩,by dsimp only;omega,⟨rfl,rfl,rfl,by dsimp only;rw[List.length_append];rfl,rfl,trivial⟩,⟨rfl,rfl,rfl,by dsimp only;rw[List.map_append,List.length_append];rfl,trivial⟩⟩
    ·have hc:c=0:=Classical.byContradiction fun h=>h4 (xA h);refine wk ?_;exact⟨(j,outs),⟨hnx.2 hc,by dsimp only;omega⟩,by dsimp only;omega,⟨rfl,rfl,rfl,rfl,rfl,trivial⟩,⟨rfl,rfl,rfl,rfl,trivial⟩⟩
  ·have hij:i<j:=by omega
   have hnx:=hO.next hi hI hij hso (fun h=>absurd h (by omega));refine wk ?_;refine c1 (oQ c) ?_;refine s1 (fun h4=>?_) (fun h4=>?_)
   ·have hc:c≠0:=fun h=>h4 (by rw[h];rfl);have hout:(outs.map dw).length=outs.length:=by simp
    refine wk ?_;exact⟨(j,outs++[(ts[i].1,c)]),⟨hnx.1 hc,by simp;omega⟩,by dsimp only;omega,⟨rfl,rfl,rfl,by dsimp only;rw[List.length_append];rfl,rfl,trivial⟩,⟨rfl,rfl,rfl,by dsimp only;rw[List.map_append,List.length_append];rfl,trivial⟩⟩
   ·have hc:c=0:=Classical.byContradiction fun h=>h4 (xA h);refine wk ?_;exact⟨(j,outs),⟨hnx.2 hc,by dsimp only;omega⟩,by dsimp only;omega,⟨rfl,rfl,rfl,rfl,rfl,trivial⟩,⟨rfl,rfl,rfl,rfl,trivial⟩⟩
 ·have hit:ts.take i=ts:=List.take_of_length_le (by omega);have hcan:dU e.t=outs:=ku hO.form fun v=>by rw[hO.co,hit,xW hperm]
  (repeat (first
    | refine Ch.no rfl rfl ?_
    | refine Ch.iX rfl rfl ?_
    | ((first | apply Ch.go | apply Ch.ah);exact rfl;exact rfl;first
      | exact Loc.move (v:= .d _) rfl rfl
      | exact Loc.assign (v:= .d _) rfl rfl
      | exact Loc.c7 rfl rfl rfl rfl
      | exact Loc.cU rfl rfl rfl
      | exact Loc.cY rfl rfl rfl
      | exact Loc.cV rfl rfl
      | exact Loc.bh (v:= .d _) rfl rfl rfl
      | exact Loc.bk (v:= .d _) rfl rfl rfl
      | exact Loc.cz rfl rfl rfl rfl (by kernel_rfl)
      | exact Loc.cZ rfl rfl rfl
      | exact Loc.cQ rfl rfl rfl rfl
      | exact Loc.ea rfl rfl rfl rfl (by assumption) rfl
      | exact Loc.fN rfl rfl
      | exact Loc.fP rfl rfl
      | exact Loc.fM rfl rfl rfl
      | exact Loc.len rfl rfl
      | exact Loc.eb rfl rfl rfl (by omega)
      | exact Loc.eG rfl rfl rfl (by omega)
      | exact Loc.ec rfl rfl rfl (by omega)
      | exact Loc.eE rfl rfl rfl (by omega)
      | exact Loc.eP rfl rfl rfl (by omega)
      | exact Loc.eM rfl rfl rfl (by omega)
      | exact Loc.eD rfl rfl rfl (by omega)
      | exact Loc.eF rfl rfl rfl (by omega)
      | exact Loc.gn rfl rfl rfl (by omega)
      | exact Loc.gp rfl rfl rfl (by omega)
      | exact Loc.gG rfl rfl rfl (by omega)
      | exact Loc.gH rfl rfl rfl (by omega)
      | exact Loc.add rfl rfl rfl (IntWalk.i64_in _ (by omega))
      | exact Loc.sub rfl rfl rfl (IntWalk.i64_in _ (by omega))
      | exact Loc.fL rfl rfl
      | exact Loc.fJ rfl rfl
      | exact Loc.cW rfl rfl rfl
      | exact Loc.c8 rfl rfl rfl (by assumption) rfl
      | exact Loc.cB rfl rfl rfl rfl rfl (by omega) rfl
      | exact Loc.move (v:= .g _) rfl rfl
      | exact Loc.move (v:= .p _ _) rfl rfl
      | exact Loc.move (v:= .r _ _) rfl rfl
      | exact Loc.move (v:= .t _) rfl rfl
      | exact Loc.assign (v:= .g _) rfl rfl
      | exact Loc.assign (v:= .r _ _) rfl rfl
      | exact Loc.assign (v:= .p _ _) rfl rfl
      | exact Loc.extract (v:= .d _) rfl rfl rfl rfl
      | exact Loc.extract (v:= .g _) rfl rfl rfl rfl
      | exact Loc.bh (v:= .g _) rfl rfl rfl
      | exact Loc.bk (v:= .g _) rfl rfl rfl
      | exact Loc.move (v:= .un) rfl rfl
      | exact Loc.build rfl rfl rfl rfl
      | exact Loc.df rfl rfl rfl rfl rfl rfl rfl)
    | refine Ch.eO (hK _ ?_)
    | ((first | apply Ch.st | apply Ch.aU);exact rfl;exact rfl;(first
      | exact Do.aC rfl rfl rfl rfl .g rfl rfl rfl
      | exact Do.aC rfl rfl rfl rfl .d rfl rfl rfl
      | exact Do.aC rfl rfl rfl rfl (.r rfl) rfl rfl rfl);exact rfl;exact rfl)
    | ((first | apply Ch.ef | apply Ch.bU);exact rfl;exact rfl;(first
      | exact Do.alloc rfl rfl rfl
      | exact Do.box rfl rfl rfl .g rfl
      | exact Do.box rfl rfl rfl .d rfl
      | exact Do.fI rfl rfl
      | exact Do.ck rfl rfl rfl rfl rfl rfl (by first | omega | (simp;omega))
      | exact Do.bS rfl rfl rfl rfl rfl rfl);exact rfl;exact rfl)
    | refine Ch.fK (by rw[hms];kernel_rfl) (hK _ ?_)
    | refine Ch.iY rfl rfl ?_))
  refine AC.ji rfl ?_;refine AC.exit ?_;refine AC.br 4 rfl rfl ?_;refine wk ?_;rw[hcan];exact⟨.cn rfl rfl inferInstance rfl ⟨.inl rfl,.inl rfl,.inl rfl,.inl rfl,trivial⟩,trivial⟩
end Go.Proofs.YthdkkpocihkgbaaGreatDoor
namespace Go.Proofs.YthdkkpocihkgbaaGreatDoor
open Go.RowKit
attribute [local irreducible] AC Do St
noncomputable def eK (a b:Ex):Ex:=⟨dU (a.t++b.t),a.c+b.c⟩
theorem Ap(a b:Ex)(hk:tb a.t+tb b.t+2≤50000000)(hkk:bz a.c+bz b.c≤50000000):Fn Tryz.prog 198 [.g (fc a),.g (fc b)] [.g (fc (eK a b))]:=by
 have hlen:a.t.length+b.t.length≤50000000:=by have:=kJ a.t;have:=kJ b.t;omega
 have hap:a.t.map dw++b.t.map dw=(a.t++b.t).map dw:=by simp
 refine Fn.of Tryz.func198 rfl (by kernel_rfl) Tryz.ntmps198 Tryz.results198 rfl fun w0 S0=>?_;refine wk ?_;((try (first | intro K ms hms hK | intro K hK));(first | apply Ch.ef | apply Ch.bU);exact rfl;exact rfl;exact Do.ry (xV (xs:=a.t.map dw) (fun c hc=>by obtain⟨t,_,rfl⟩:=List.mem_map.1 hc;rfl) (by simp;omega)) rfl ⟨.inl rfl,trivial⟩ rfl;exact rfl;exact rfl);refine wk ?_;((try (first | intro K ms hms hK | intro K hK));(first | apply Ch.ef | apply Ch.bU);exact rfl;exact rfl;exact Do.append rfl rfl rfl rfl rfl (fun c hc=>by obtain⟨t,_,rfl⟩:=List.mem_map.1 hc;rfl) (by simp;omega);exact rfl;exact rfl);rw[hap];refine wk ?_;refine c1 (pU (bw a.c) (bw b.c) hkk) ?_;((try (first | intro K ms hms hK | intro K hK));(first | apply Ch.ef | apply Ch.bU);exact rfl;exact rfl;exact Do.EX 10 rfl rfl (by decide) (by simp) (Loc.build rfl rfl rfl rfl);exact rfl;exact rfl);refine c1 (wO ⟨a.t++b.t,a.c+b.c⟩ (by rw[nP];exact hk)) ?_;refine wk ?_;exact⟨.cn rfl rfl inferInstance rfl ⟨.inl rfl,.inl rfl,.inl rfl,.inl rfl,trivial⟩,trivial⟩
end Go.Proofs.YthdkkpocihkgbaaGreatDoor
namespace Go.Proofs.YthdkkpocihkgbaaGreatDoor
open Go.RowKit
attribute [local irreducible] AC Do St
def fE(r:Rat)(t:Tm):Tm:=(t.1,r*t.2)
noncomputable def cy (r:Rat)(e:Ex):Ex:=⟨dU (e.t.map (fE r)),r*e.c⟩
theorem rm(r:Rat)(e:Ex)(hk:tb (e.t.map (fE r))+2≤50000000)(ht:∀ t∈e.t,bz r+bz t.2≤50000000)(hc:bz r+bz e.c≤50000000):Fn Tryz.prog 199 [.g (aN r),.g (fc e)] [.g (fc (cy r e))]:=by
 have hlen:e.t.length≤50000000:=by have:=kJ (e.t.map (fE r));rw[List.length_map]at this;omega
 refine Fn.of Tryz.func199 rfl (by kernel_rfl) Tryz.ntmps199 Tryz.results199 rfl fun w0 S0=>?_;refine wk ?_;refine c1 (uR (bw r) (bw e.c) hc) ?_;refine wk ?_;refine AC.mj 5 0 30 161 4 rfl rfl rfl ?_;refine AC.loop (X:=Nat) (fun i=>⟨[(2,.p 2 0),(4,.p 4 0),(5,.p 5 0),(14,.d (.l (e.t.map dw))),(15,.d (.v (.int .i64 (e.t.length:Int)))),(16,.d (.v (.int .i64 (i:Int))))],[(2,.box 119 ((aN r).map .d)),(4,.box 155 [.d .n,.d (.v (.bool false)),.d .n,.d .n]),(5,.box 155 (.r 30 i::(aN (r*e.c)).map .d)),(30,.row i 161 4 ((e.t.take i).map fun t=>dw (fE r t)))]⟩) (fun i=>i≤e.t.length) (fun i=>e.t.length-i) 0 (Nat.zero_le _) ⟨rfl,rfl,rfl,rfl,rfl,rfl,trivial⟩ ⟨rfl,rfl,rfl,rfl,trivial⟩ ?_;intro i hi;refine wk ?_;(first | intro K ms hms hK | intro K hK);refine s1 (fun h1=>?_) (fun h1=>?_)
 ·have hi':i<e.t.length:=by omega
  have hget:e.t[i]?=some e.t[i]:=List.getElem?_eq_getElem hi';have hts:((e.t.take (i+1)).map fun t=>dw (fE r t))=((e.t.take i).map fun t=>dw (fE r t))++[dw (fE r e.t[i])]:=by
   rw[List.take_succ_eq_append_getElem hi',List.map_append];rfl
  refine wk ?_;refine c1 (uR (bw r) (bw _) (ht _ (List.getElem_mem hi'))) ?_;refine wk ?_;refine⟨i+1,by omega,by omega,⟨rfl,rfl,rfl,rfl,rfl,rfl,trivial⟩,⟨rfl,rfl,rfl,by rw[hts];rfl,trivial⟩⟩
 ·have hend:e.t.take i=e.t:=List.take_of_length_le (by omega);have hmm:(e.t.map fun t=>dw (fE r t))=(e.t.map (fE r)).map dw:=by simp
  refine wk ?_;(first | intro K ms hms hK | intro K hK);refine Ch.gT 5 0 rfl rfl rfl ?_;rw[hend,hmm];refine wk ?_;refine c1 (wO ⟨e.t.map (fE r),r*e.c⟩ hk) ?_;refine wk ?_;exact⟨.cn rfl rfl inferInstance rfl ⟨.inl rfl,.inl rfl,.inl rfl,.inl rfl,trivial⟩,trivial⟩
end Go.Proofs.YthdkkpocihkgbaaGreatDoor
namespace Go.Proofs.YthdkkpocihkgbaaGreatDoor
open Go.RowKit
attribute [local irreducible] AC Do St
noncomputable def cH (a b:Ex):Ex:=eK a (cy (-1) b)
theorem wE(a b:Ex)(h1:tb (b.t.map (fE (-1)))+2≤50000000)(h2:∀ t∈b.t,bz t.2≤40000000)(h3:bz b.c≤40000000)(h4:tb a.t+tb (cy (-1) b).t+2≤50000000)(h5:bz a.c+bz (cy (-1) b).c≤50000000):Fn Tryz.prog 149 [.g (fc a),.g (fc b)] [.g (fc (cH a b))]:=by
 have hm1:bz (-1:Rat)≤1:=km ⟨by decide,by decide⟩;refine Fn.of Tryz.func149 rfl (by kernel_rfl) Tryz.ntmps149 Tryz.results149 rfl fun w0 S0=>?_;refine wk ?_;refine c1 (nU (-1) (by omega) (by omega)) ?_;refine wk ?_;refine c1 (rm (-1) b h1 (fun t h=>by have:=h2 t h;omega) (by omega)) ?_;refine wk ?_;refine c1 (Ap a (cy (-1) b) h4 h5) ?_;refine wk ?_;exact⟨.cn rfl rfl inferInstance rfl ⟨.inl rfl,.inl rfl,.inl rfl,.inl rfl,trivial⟩,trivial⟩
end Go.Proofs.YthdkkpocihkgbaaGreatDoor
namespace Go.Proofs.YthdkkpocihkgbaaGreatDoor
open Go.RowKit
attribute [local irreducible] AC Do St
theorem qC(p:List Rat){l:List Tm}{i:Nat}(hi:i<l.length):cp p (l.take (i+1))=cp p (l.take i)+l[i].2*mM p l[i].1:=by
 have happ:∀ a b:List Tm,cp p (a++b)=cp p a+cp p b:=by
  intro a b
  induction a with
  | nil=>simp only[List.nil_append,cp];grind
  | cons t a ih=>simp only[List.cons_append,cp,ih,Rat.add_assoc]
 rw[List.take_succ_eq_append_getElem hi,happ,cp,cp];grind
theorem uX{p:List Rat}{v:Int}(h0:0≤v)(h1:v<p.length):mM p v=p[v.toNat]'(by omega):=by
 unfold mM;grind
theorem nT{p:List Rat}{v:Int}(h:¬ (0≤v∧v<p.length)):mM p v=0:=by
 unfold mM;grind
theorem zM{k:Nat}{e:Ex}{p:List Rat}(hc:Bd k e.c)(ht:∀ t∈e.t,Bd k t.2)(hp:∀ q∈p,Bd k q)(h1:0<k):∀ i,i≤e.t.length→Bd ((i+1)*(2*k+1)) (e.c+cp p (e.t.take i)):=by
 intro i
 induction i with
 | zero=>
   intro _;have:e.c+cp p (e.t.take 0)=e.c:=by simp only[List.take_zero,cp];grind
   rw[this];exact hc.mono (by omega)
 | succ i ih=>
   intro hi;rw[qC p (by omega),←Rat.add_assoc];have hv:Bd k (mM p e.t[i].1):=by
    by_cases h:0≤e.t[i].1∧e.t[i].1<p.length
    ·rw[uX h.1 h.2];exact hp _ (List.getElem_mem _)
    ·rw[nT h];exact Bd.zero h1
   refine((ih (by omega)).add ((ht _ (List.getElem_mem (show i<e.t.length by omega))).mul hv)).mono ?_;rw[Nat.add_mul (i+1) 1];omega
theorem DP(e:Ex)(p:List Rat)(k:Nat)(hc:Bd k e.c)(ht:∀ t∈e.t,Bd k t.2)(hp:∀ q∈p,Bd k q)(hk0:0<k)(hk:(e.t.length+2)*(2*k+1)≤50000000):Fn Tryz.prog 141 [.g (fc e),.d (.l (p.map aN))] [.g (aN (e.c+cp p e.t))]:=by
 have hlen:e.t.length≤50000000:=Nat.le_trans (Nat.le_trans (by omega) (Nat.le_mul_of_pos_right (e.t.length+2) (by omega:0<2*k+1))) hk;have h0:e.c+cp p (e.t.take 0)=e.c:=by simp only[List.take_zero,cp];grind
 refine Fn.of Tryz.func141 rfl (by kernel_rfl) Tryz.ntmps141 Tryz.results141 rfl fun w0 S0=>?_;refine wk ?_;refine AC.loop (X:=Nat) (fun i=>⟨[(1,.d (.l (p.map aN))),(4,.p 4 0),(5,.p 5 0),(11,.d (.l (e.t.map dw))),(12,.d (.v (.int .i64 (e.t.length:Int)))),(13,.d (.v (.int .i64 (i:Int))))],[(4,.box 119 [.d (.v (.bool false)),.d .n,.d .n]),(5,.box 119 ((aN (e.c+cp p (e.t.take i))).map .d))]⟩) (fun i=>i≤e.t.length) (fun i=>e.t.length-i) 0 (Nat.zero_le _) ⟨rfl,rfl,rfl,rfl,rfl,rfl,trivial⟩ ⟨rfl,by dsimp only;rw[h0];rfl,trivial⟩ ?_;intro i hi;refine wk ?_;(first | intro K ms hms hK | intro K hK);refine s1 (fun h1=>?_) (fun h1=>?_)
 ·have hi':i<e.t.length:=by omega
  have hget:e.t[i]?=some e.t[i]:=List.getElem?_eq_getElem hi';have htk:=qC p hi';have hpl:(p.map aN).length=p.length:=by simp
  refine wk ?_;(first | intro K ms hms hK | intro K hK);refine s1 (fun h2=>?_) (fun h2=>?_)
  ·refine wk ?_;refine s1 (fun h3=>?_) (fun h3=>?_)
   ·have hv:=uX (p:=p) h2 (by omega);have hgp:p[e.t[i].1.toNat]?=some (p[e.t[i].1.toNat]'(by omega)):=List.getElem?_eq_getElem _;have hb1:=zM hc ht hp hk0 i hi;have hb2:=(ht _ (List.getElem_mem hi')).mul (hp _ (List.getElem_mem (show e.t[i].1.toNat<p.length by omega)));have hs:(i+1)*(2*k+1)+(k+k)≤50000000:=by
     have q1:(i+1+1)*(2*k+1)≤(e.t.length+2)*(2*k+1):=Nat.mul_le_mul_right _ (by omega);rw[Nat.add_mul (i+1) 1]at q1;omega
    have hs2:e.c+cp p (e.t.take (i+1))=e.c+cp p (e.t.take i)+e.t[i].2*p[e.t[i].1.toNat]'(by omega):=by
     rw[htk,hv,←Rat.add_assoc]
    refine wk ?_;((try (first | intro K ms hms hK | intro K hK));(first | apply Ch.go | apply Ch.ah);exact rfl;exact rfl;exact Loc.ea (i:=e.t[i].1.toNat) rfl rfl rfl (by omega) hgp rfl);refine wk ?_;refine c1 (uR (ht _ (List.getElem_mem hi')) (hp _ (List.getElem_mem (show e.t[i].1.toNat<p.length by omega))) (by omega)) ?_;refine c1 (pU hb1 hb2 hs) ?_;refine wk ?_;exact⟨i+1,by omega,by omega,⟨rfl,rfl,rfl,rfl,rfl,rfl,trivial⟩,⟨rfl,by rw[hs2];rfl,trivial⟩⟩
   ·have hv:=nT (p:=p) (v:=e.t[i].1) (by omega);have hs2:e.c+cp p (e.t.take (i+1))=e.c+cp p (e.t.take i):=by rw[htk,hv];grind
    refine wk ?_;exact⟨i+1,by omega,by omega,⟨rfl,rfl,rfl,rfl,rfl,rfl,trivial⟩,⟨rfl,by rw[hs2];rfl,trivial⟩⟩
  ·have hv:=nT (p:=p) (v:=e.t[i].1) (by omega);have hs2:e.c+cp p (e.t.take (i+1))=e.c+cp p (e.t.take i):=by rw[htk,hv];grind
   refine wk ?_;exact⟨i+1,by omega,by omega,⟨rfl,rfl,rfl,rfl,rfl,rfl,trivial⟩,⟨rfl,by rw[hs2];rfl,trivial⟩⟩
 ·have hend:e.t.take i=e.t:=List.take_of_length_le (by omega);refine wk ?_;rw[hend];exact⟨.cn rfl rfl inferInstance rfl ⟨.inl rfl,.inl rfl,.inl rfl,trivial⟩,trivial⟩
end Go.Proofs.YthdkkpocihkgbaaGreatDoor
namespace Go.Proofs.YthdkkpocihkgbaaGreatDoor
open Go.RowKit
attribute [local irreducible] AC Do St
def ik(t:Tm):List Tm→List Tm
 | []=>if t.2=0 then []else [t]
 | u::l=>if t.1<u.1 then(if t.2=0 then u::l else t::u::l)else if t.1=u.1 then(if t.2+u.2=0 then l else(u.1,t.2+u.2)::l)else u::ik t l
theorem tC{t:Tm}{b:Int}:∀ {l:List Tm},b<t.1→(∀u∈l,b<u.1)→∀ u∈ik t l,b<u.1
 | [],hb,_,u,hu=>by
   unfold ik at hu;split at hu
   ·cases hu
   ·rw[List.mem_singleton.1 hu];exact hb
 | v::l,hb,h,u,hu=>by
   unfold ik at hu;have hv:=h v (by simp);have hl:∀ u∈l,b<u.1:=fun u hu=>h u (by simp[hu]);split at hu
   ·split at hu
    ·exact h u hu
    ·rcases List.mem_cons.1 hu with h1 | h1
     ·rw[h1];exact hb
     ·exact h u h1
   ·split at hu
    ·split at hu
     ·exact hl u hu
     ·rcases List.mem_cons.1 hu with h1 | h1
      ·rw[h1];exact hv
      ·exact hl u h1
    ·rcases List.mem_cons.1 hu with h1 | h1
     ·rw[h1];exact hv
     ·exact tC hb hl u h1
theorem nj{t:Tm}:∀ {l:List Tm},Form l→Form (ik t l)∧∀ v,ar (ik t l) v=ar (t::l) v
 | [],_=>by
   unfold ik;split
   ·rename_i h;exact⟨⟨.nil,by simp⟩,fun v=>by simp only[ar,h];grind⟩
   ·rename_i h;exact⟨⟨List.pairwise_singleton _ _,fun x hx=>by rw[List.mem_singleton.1 hx];exact h⟩,fun _=>rfl⟩
 | u::l,hf=>by
   obtain⟨ih1,ih2⟩:=nj (t:=t) hf.tail;have hp:=List.pairwise_cons.1 hf.1;unfold ik;split
   ·rename_i h1;split
    ·rename_i h;exact⟨hf,fun v=>by simp only[ar,h];grind⟩
    ·rename_i h;refine⟨⟨List.pairwise_cons.2 ⟨fun x hx=>?_,hf.1⟩,fun x hx=>?_⟩,fun _=>rfl⟩
     ·rcases List.mem_cons.1 hx with h2 | h2
      ·rw[h2];exact h1
      ·have:=hp.1 x h2;omega
     ·rcases List.mem_cons.1 hx with h2 | h2
      ·rw[h2];exact h
      ·exact hf.2 x h2
   ·rename_i h1;split
    ·rename_i h2;split
     ·rename_i h;exact⟨hf.tail,fun v=>by simp only[ar,h2];grind⟩
     ·rename_i h;refine⟨⟨List.pairwise_cons.2 ⟨fun x hx=>hp.1 x hx,hf.tail.1⟩,fun x hx=>?_⟩,fun v=>by simp only[ar,h2];grind⟩;rcases List.mem_cons.1 hx with h3 | h3
      ·rw[h3];exact h
      ·exact hf.2 x (by simp[h3])
    ·rename_i h2;refine⟨⟨List.pairwise_cons.2 ⟨fun x hx=>tC (by omega) hp.1 x hx,ih1.1⟩,fun x hx=>?_⟩,fun v=>?_⟩
     ·rcases List.mem_cons.1 hx with h3 | h3
      ·rw[h3];exact hf.2 u (by simp)
      ·exact ih1.2 x h3
     ·rw[ar,ih2];simp only[ar];grind
theorem uB(t:Tm):∀ l:List Tm,(ik t l).length≤l.length+1
 | []=>by unfold ik;split<;>simp
 | u::l=>by
   have:=uB t l;unfold ik
   repeat' split
   all_goals simp
   all_goals omega
theorem yL:∀ l:List Tm,∃o,Form o∧(∀v,ar o v=ar l v)∧o.length≤l.length
 | []=>⟨[],⟨.nil,by simp⟩,fun _=>rfl,Nat.le_refl _⟩
 | t::l=>by
   obtain⟨o,h1,h2,h3⟩:=yL l;obtain⟨q1,q2⟩:=nj (t:=t) h1;exact⟨ik t o,q1,fun v=>by rw[q2,ar,ar,h2],by have:=uB t o;simp;omega⟩
theorem eg(l:List Tm):Form (dU l)∧(∀v,ar (dU l) v=ar l v)∧(dU l).length≤l.length:=by
 obtain⟨o,h1,h2,h3⟩:=yL l;rw[ku h1 h2];exact⟨h1,h2,h3⟩
