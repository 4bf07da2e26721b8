import Derived.Test.YthdkkpocihkgbaaGreatDoorPpH
set_option maxRecDepth 100000
set_option maxHeartbeats 32000000
namespace Go.Proofs.YthdkkpocihkgbaaGreatDoor
open Go.RowKit
attribute [local irreducible] AC Do St
def nH(x:ST):(Rat×Bool)×(Rat×Bool):=match x.l with
 | [a,b]=>(cd a,cd b)
 | _=>((0,false),(0,false))
def iE(x:ST):Bool:=!x.b&&decide (x.l.length=2)&&(nH x).1.2&&(nH x).2.2
noncomputable def sY:List ST→List (Rat×Rat)→Bool→Bool
 | [],_,s=>s
 | x::r,bs,s=>sY r bs.tail (s&&decide (cL ((bs.headD (0,0)).1-(nH x).1.1)=0)&&decide (cL ((bs.headD (0,0)).2-(nH x).2.1)=0))
noncomputable def mZ (i:Int)(p:PP)(t:List ST)(f:ST):Int:=if t.all iE=true then(if cK i p.ats f p.bad 0= -1 then-1 else if sY t p.box (decide (p.box.length=t.length))=true∧cK i p.ats f p.bad 0=p.ats.length then 1 else 0)else-1
noncomputable def c9 (i:Int)(p:PP):List ST→Int
 | [.mk false _ (.mk true u _::t),.mk false _ [.mk true v _,f]]=>if u=[98,111,120]∧v=[98,97,100]then mZ i p t f else-1
 | _=> -1
theorem Ec(i:Int)(p:PP)(wa1 wb u v:List UInt8)(ul vl t:List ST)(f:ST)(hu:u=[98,111,120])(hv:v=[98,97,100]){k:Nat}(hk:k≤10000000)(hb:∀ s∈p.box,Bd k s.1∧Bd k s.2)(hsw:∀ x∈t,gL x)(htl:t.length≤1000000)(hfm:Fn Tryz.prog 97 [.g (aq f),.d (.v (.int .i64 i)),.g (dN p),.g (aM p.bad),.d (.v (.int .i64 0))] [.d (.v (.int .i64 (cK i p.ats f p.bad 0)))]):Fn Tryz.prog 46 [.d (.l ([ST.mk false wa1 (.mk true u ul::t),.mk false wb [.mk true v vl,f]].map aq)),.d (.v (.int .i64 i)),.g (dN p)] [.d (.v (.int .i64 (mZ i p t f)))]:=by
 generalize hrf:cK i p.ats f p.bad 0=q at hfm;obtain⟨R,hR⟩:∃ R,mZ i p t f=R:=⟨_,rfl⟩
 rw[hR];unfold mZ at hR;rw[hrf]at hR;have hrow:[ST.mk false wa1 (.mk true u ul::t),.mk false wb [.mk true v vl,f]].map aq=[[.v (.bool false),.v (.string (tx wa1)),.l ((ST.mk true u ul::t).map aq)],[.v (.bool false),.v (.string (tx wb)),.l ([ST.mk true v vl,f].map aq)]]:=by rw[List.map_cons,List.map_cons,bE,bE];rfl
 rw[hrow];clear hrow;have hl1:([[.v (.bool false),.v (.string (tx wa1)),.l ((ST.mk true u ul::t).map aq)],[.v (.bool false),.v (.string (tx wb)),.l ([ST.mk true v vl,f].map aq)]]:List (List D)).length=2:=rfl;have hl2:(ST.mk true u ul::t).length=t.length+1:=List.length_cons ..;have hl3:[ST.mk true v vl,f].length=2:=rfl;have hg3:(ST.mk true u ul::t)[0]?=some (.mk true u ul):=rfl;have hg4:[ST.mk true v vl,f][0]?=some (.mk true v vl):=rfl;have hg5:[ST.mk true v vl,f][1]?=some f:=rfl;have hdr:((ST.mk true u ul::t).map aq).drop 1=t.map aq:=rfl;have hml:(t.map aq).length=t.length:=List.length_map ..;have hpl:(p.box.map jK).length=p.box.length:=List.length_map ..;have hal:(p.ats.map iK).length=p.ats.length:=List.length_map ..;obtain⟨s0,hs0,hle⟩:∃ s0:Bool,decide (p.box.length=t.length)=s0∧((p.box.length=t.length∧s0=true)∨(p.box.length≠t.length∧s0=false)):=by
  by_cases h:p.box.length=t.length
  ·exact⟨true,decide_eq_true h,.inl ⟨h,rfl⟩⟩
  ·exact⟨false,decide_eq_false h,.inr ⟨h,rfl⟩⟩
 rw[hs0]at hR;have hsl:s0=true→p.box.length=t.length:=fun e=>by
  rcases hle with h | h
  ·exact h.1
  ·rw[h.2]at e;cases e
 rcases hle with ⟨hle,rfl⟩ | ⟨hle,rfl⟩
 all_goals
  refine Fn.of Tryz.func46 rfl (by kernel_rfl) Tryz.ntmps46 Tryz.results46 rfl fun w0 S0=>?_;refine wa ?_;((try (first | intro K ms hms hK | intro K hK));(first | apply Ch.go | apply Ch.ah);exact rfl;exact rfl;exact Loc.idx (i:=0) rfl rfl rfl rfl rfl rfl);refine wa ?_;((try (first | intro K ms hms hK | intro K hK));(first | apply Ch.go | apply Ch.ah);exact rfl;exact rfl;exact Loc.idx (i:=1) rfl rfl rfl rfl rfl rfl);refine wa ?_;((try (first | intro K ms hms hK | intro K hK));(first | apply Ch.go | apply Ch.ah);exact rfl;exact rfl;exact Loc.idx (i:=0) rfl rfl rfl rfl rfl rfl);refine wa ?_;((try (first | intro K ms hms hK | intro K hK));(first | apply Ch.go | apply Ch.ah);exact rfl;exact rfl;exact Loc.idx (i:=1) rfl rfl rfl rfl rfl rfl);refine wa ?_;((try (first | intro K ms hms hK | intro K hK));(first | apply Ch.go | apply Ch.ah);exact rfl;exact rfl;exact Loc.idx (i:=0) rfl rfl rfl rfl rfl rfl);refine wa ?_;((try (first | intro K ms hms hK | intro K hK));(first | apply Ch.go | apply Ch.ah);exact rfl;exact rfl;exact Loc.idx (i:=0) rfl rfl rfl rfl rfl rfl);refine wa ?_;((try (first | intro K ms hms hK | intro K hK));(first | apply Ch.go | apply Ch.ah);exact rfl;exact rfl;exact Loc.idx (i:=1) rfl rfl rfl rfl rfl rfl);refine wa ?_;((try (first | intro K ms hms hK | intro K hK));(first | apply Ch.go | apply Ch.ah);exact rfl;exact rfl;exact Loc.idx (i:=1) rfl rfl rfl rfl rfl rfl);refine wa ?_
  ((try (first | intro K ms hms hK | intro K hK));(first | apply Ch.go | apply Ch.ah);exact rfl;exact rfl;exact Loc.idx (i:=0) rfl rfl rfl rfl rfl rfl);refine wa ?_;((try (first | intro K ms hms hK | intro K hK));(first | apply Ch.go | apply Ch.ah);exact rfl;exact rfl;exact Loc.idx (i:=0) rfl rfl rfl rfl rfl rfl);refine wa ?_;((try (first | intro K ms hms hK | intro K hK));(first | apply Ch.go | apply Ch.ah);exact rfl;exact rfl;exact Loc.cC 1 rfl rfl rfl rfl (by simp) (cI _));rw[hdr];refine wa ?_;refine AC.loop (X:=Nat×Bool) (fun x=>⟨[(0,.d (.l [[.v (.bool false),.v (.string (tx wa1)),.l ((ST.mk true u ul::t).map aq)],[.v (.bool false),.v (.string (tx wb)),.l ([ST.mk true v vl,f].map aq)]])),(1,.d (.v (.int .i64 i))),(5,.p 5 0),(7,.d (.v (.bool x.2))),(100,.d (.l (t.map aq))),(101,.d (.v (.int .i64 (t.length:Int)))),(102,.d (.v (.int .i64 (x.1:Int))))],[(5,.box 92 ((dN p).map .d))]⟩) (fun x=>x.1≤t.length∧(x.2=true→p.box.length=t.length)∧(if (t.drop x.1).all iE=true then(if q= -1 then-1 else if sY (t.drop x.1) (p.box.drop x.1) x.2=true∧q=p.ats.length then 1 else 0)else-1)=R) (fun x=>t.length-x.1) (0,_) ⟨Nat.zero_le _,hsl,hR⟩ ⟨rfl,rfl,rfl,rfl,rfl,rfl,rfl,trivial⟩ ⟨rfl,trivial⟩ ?_;intro ⟨j,sm⟩ ⟨hj,hsm,hgo⟩;dsimp only at hj hsm hgo ⊢;clear hR hsl hle hs0;by_cases g1:j<t.length
  ·have hg:t[j]?=some t[j]:=List.getElem?_eq_getElem g1;have hmem:=List.getElem_mem g1;have hsx:=hsw _ hmem;rw[List.drop_eq_getElem_cons g1,List.all_cons,sY,List.tail_drop]at hgo;generalize t[j]=x at hg hmem hgo hsx;obtain⟨xb,xw,xl⟩:=x;cases xb with
   | true=>
     rw[show iE (.mk true xw xl)=false from rfl,Bool.false_and,if_neg (by decide)]at hgo;subst hgo;refine wa ?_;exact⟨.d rfl (.inl rfl),trivial⟩
   | false=>
   by_cases h2:xl.length=2
   ·obtain⟨xa,xc,rfl⟩:∃ xa xc,xl=[xa,xc]:=by
     match xl,h2 with
     | [xa,xc],_=>exact⟨xa,xc,rfl⟩
    have hsx2:=hsx;rw[fB]at hsx;have hxm:iL (.mk false xw [xa,xc])=[xa,xc].map aq:=by rw[iL,fR]
    have hNa:=mG xa (iZ (ca hsx.2 xa (by simp)));have hNb:=mG xc (iZ (ca hsx.2 xc (by simp)));have hBa:bz (cd xa).1≤100000:=by
     have:=iZ (ca hsx.2 xa (by simp));have:=dO xa.w;unfold cd;split
     ·dsimp only;omega
     ·dsimp only;rw[dX];omega
    have hBb:bz (cd xc).1≤100000:=by
     have:=iZ (ca hsx.2 xc (by simp));have:=dO xc.w;unfold cd;split
     ·dsimp only;omega
     ·dsimp only;rw[dX];omega
    have hok:iE (.mk false xw [xa,xc])=((cd xa).2&&(cd xc).2):=by
     show (!false&&decide ([xa,xc].length=2)&&(cd xa).2&&(cd xc).2)=_;simp
    have hsd:nH (.mk false xw [xa,xc])=(cd xa,cd xc):=rfl;rw[hok,hsd]at hgo;have hl4:[xa,xc].length=2:=rfl;have hg6:[xa,xc][0]?=some xa:=rfl;have hg7:[xa,xc][1]?=some xc:=rfl;generalize cd xa=na at*;generalize cd xc=nb at*;obtain⟨lo,ok1⟩:=na;obtain⟨hi,ok2⟩:=nb;dsimp only at*;clear hok hsd hsx hsx2;have hxl2:(iL (.mk false xw [xa,xc])).length=2:=by rw[hxm];rfl
    cases ok1 with
    | false=>
      rw[Bool.false_and,Bool.false_and,if_neg (by decide)]at hgo;subst hgo;refine wa ?_;((try (first | intro K ms hms hK | intro K hK));(first | apply Ch.go | apply Ch.ah);exact rfl;exact rfl;exact Loc.idx (i:=0) (cs:=aq xa) rfl rfl rfl rfl (by rw[hxm];rfl) rfl);refine wa ?_
      try refine c1 hNa ?_
      refine wa ?_;((try (first | intro K ms hms hK | intro K hK));(first | apply Ch.go | apply Ch.ah);exact rfl;exact rfl;exact Loc.idx (i:=1) (cs:=aq xc) rfl rfl rfl rfl (by rw[hxm];rfl) rfl);refine wa ?_
      try refine c1 hNb ?_
      refine wa ?_;exact⟨.d rfl (.inl rfl),trivial⟩
    | true=>
    cases ok2 with
    | false=>
      rw[Bool.and_false,Bool.false_and,if_neg (by decide)]at hgo;subst hgo;refine wa ?_;((try (first | intro K ms hms hK | intro K hK));(first | apply Ch.go | apply Ch.ah);exact rfl;exact rfl;exact Loc.idx (i:=0) (cs:=aq xa) rfl rfl rfl rfl (by rw[hxm];rfl) rfl);refine wa ?_
      try refine c1 hNa ?_
      refine wa ?_;((try (first | intro K ms hms hK | intro K hK));(first | apply Ch.go | apply Ch.ah);exact rfl;exact rfl;exact Loc.idx (i:=1) (cs:=aq xc) rfl rfl rfl rfl (by rw[hxm];rfl) rfl);refine wa ?_
      try refine c1 hNb ?_
      refine wa ?_;exact⟨.d rfl (.inl rfl),trivial⟩
    | true=>
    rw[Bool.and_self,Bool.true_and]at hgo;cases sm with
    | false=>
      rw[Bool.false_and,Bool.false_and]at hgo;refine wa ?_;((try (first | intro K ms hms hK | intro K hK));(first | apply Ch.go | apply Ch.ah);exact rfl;exact rfl;exact Loc.idx (i:=0) (cs:=aq xa) rfl rfl rfl rfl (by rw[hxm];rfl) rfl);refine wa ?_
      try refine c1 hNa ?_
      refine wa ?_;((try (first | intro K ms hms hK | intro K hK));(first | apply Ch.go | apply Ch.ah);exact rfl;exact rfl;exact Loc.idx (i:=1) (cs:=aq xc) rfl rfl rfl rfl (by rw[hxm];rfl) rfl);refine wa ?_
      try refine c1 hNb ?_
      refine wa ?_;exact⟨(j+1,false),⟨g1,(fun h=>nomatch h),hgo⟩,by dsimp only;omega,⟨rfl,rfl,rfl,rfl,rfl,rfl,rfl,trivial⟩,⟨rfl,trivial⟩⟩
    | true=>
    have hbl:=hsm rfl;have hgb:p.box[j]?=some p.box[j]:=List.getElem?_eq_getElem (by omega);have hbb:=hb _ (List.getElem_mem (show j<p.box.length by omega));rw[List.drop_eq_getElem_cons (show j<p.box.length by omega),List.headD_cons,Bool.true_and]at hgo;generalize p.box[j]=s at hgb hbb hgo;have hc1:=zQ hbb.1 (bw lo) (by omega);have hc2:=zQ hbb.2 (bw hi) (by omega);by_cases z1:cL (s.1-lo)=0
    rotate_left
    ·rw[decide_eq_false z1,Bool.false_and]at hgo;refine wa ?_;((try (first | intro K ms hms hK | intro K hK));(first | apply Ch.go | apply Ch.ah);exact rfl;exact rfl;exact Loc.idx (i:=0) (cs:=aq xa) rfl rfl rfl rfl (by rw[hxm];rfl) rfl);refine wa ?_
     try refine c1 hNa ?_
     refine wa ?_;((try (first | intro K ms hms hK | intro K hK));(first | apply Ch.go | apply Ch.ah);exact rfl;exact rfl;exact Loc.idx (i:=1) (cs:=aq xc) rfl rfl rfl rfl (by rw[hxm];rfl) rfl);refine wa ?_
     try refine c1 hNb ?_
     refine wa ?_;refine c1 hc1 ?_;refine wa ?_;exact⟨(j+1,false),⟨g1,(fun h=>nomatch h),hgo⟩,by dsimp only;omega,⟨rfl,rfl,rfl,rfl,rfl,rfl,rfl,trivial⟩,⟨rfl,trivial⟩⟩
    rw[decide_eq_true z1,Bool.true_and]at hgo;by_cases z2:cL (s.2-hi)=0
    ·rw[decide_eq_true z2]at hgo;refine wa ?_;((try (first | intro K ms hms hK | intro K hK));(first | apply Ch.go | apply Ch.ah);exact rfl;exact rfl;exact Loc.idx (i:=0) (cs:=aq xa) rfl rfl rfl rfl (by rw[hxm];rfl) rfl);refine wa ?_
     try refine c1 hNa ?_
     refine wa ?_;((try (first | intro K ms hms hK | intro K hK));(first | apply Ch.go | apply Ch.ah);exact rfl;exact rfl;exact Loc.idx (i:=1) (cs:=aq xc) rfl rfl rfl rfl (by rw[hxm];rfl) rfl);refine wa ?_
     try refine c1 hNb ?_
     refine wa ?_;refine c1 hc1 ?_;refine wa ?_;exact⟨(j+1,true),⟨g1,hsm,hgo⟩,by dsimp only;omega,⟨rfl,rfl,rfl,rfl,rfl,rfl,rfl,trivial⟩,⟨rfl,trivial⟩⟩
    ·rw[decide_eq_false z2]at hgo;refine wa ?_;((try (first | intro K ms hms hK | intro K hK));(first | apply Ch.go | apply Ch.ah);exact rfl;exact rfl;exact Loc.idx (i:=0) (cs:=aq xa) rfl rfl rfl rfl (by rw[hxm];rfl) rfl);refine wa ?_
     try refine c1 hNa ?_
     refine wa ?_;((try (first | intro K ms hms hK | intro K hK));(first | apply Ch.go | apply Ch.ah);exact rfl;exact rfl;exact Loc.idx (i:=1) (cs:=aq xc) rfl rfl rfl rfl (by rw[hxm];rfl) rfl);refine wa ?_
     try refine c1 hNb ?_
     refine wa ?_;refine c1 hc1 ?_;refine wa ?_;exact⟨(j+1,false),⟨g1,(fun h=>nomatch h),hgo⟩,by dsimp only;omega,⟨rfl,rfl,rfl,rfl,rfl,rfl,rfl,trivial⟩,⟨rfl,trivial⟩⟩
   ·rw[show iE (.mk false xw xl)=false by unfold iE;simp[show (ST.mk false xw xl).l=xl from rfl,h2],Bool.false_and,if_neg (by decide)]at hgo;subst hgo;have hxl:(iL (.mk false xw xl)).length≠2:=by rw[iL,fR,List.length_map];exact h2
    refine wa ?_;exact⟨.d rfl (.inl rfl),trivial⟩
  ·rw[List.drop_eq_nil_of_le (by omega)]at hgo;rw[List.all_nil,if_pos rfl,sY]at hgo;by_cases q1:q= -1
   ·rw[if_pos q1]at hgo;subst hgo;refine wa ?_;((try (first | intro K ms hms hK | intro K hK));(first | apply Ch.go | apply Ch.ah);exact rfl;exact rfl;exact Loc.idx (i:=1) rfl rfl rfl rfl rfl rfl);refine wa ?_;exact⟨.d rfl (.inl rfl),trivial⟩
   rw[if_neg q1]at hgo;cases sm with
   | false=>
     rw[if_neg (fun h=>nomatch h.1)]at hgo;subst hgo;refine wa ?_;((try (first | intro K ms hms hK | intro K hK));(first | apply Ch.go | apply Ch.ah);exact rfl;exact rfl;exact Loc.idx (i:=1) rfl rfl rfl rfl rfl rfl);refine wa ?_;exact⟨.d rfl (.inl rfl),trivial⟩
   | true=>
   by_cases q2:q=(p.ats.length:Int)
   ·rw[if_pos ⟨rfl,q2⟩]at hgo;subst hgo;refine wa ?_;((try (first | intro K ms hms hK | intro K hK));(first | apply Ch.go | apply Ch.ah);exact rfl;exact rfl;exact Loc.idx (i:=1) rfl rfl rfl rfl rfl rfl);refine wa ?_;exact⟨.d rfl (.inl rfl),trivial⟩
   ·rw[if_neg (fun h=>q2 h.2)]at hgo;subst hgo;refine wa ?_;((try (first | intro K ms hms hK | intro K hK));(first | apply Ch.go | apply Ch.ah);exact rfl;exact rfl;exact Loc.idx (i:=1) rfl rfl rfl rfl rfl rfl);refine wa ?_;exact⟨.d rfl (.inl rfl),trivial⟩
theorem Ct(i:Int)(p:PP)(rows:List ST){k:Nat}(hk:k≤10000000)(hb:∀ s∈p.box,Bd k s.1∧Bd k s.2)(hsw:∀ x∈rows,gL x)(htl:∀ x∈rows,x.l.length≤1000000)(hfm:∀ c∈rows,∀f∈c.l,Fn Tryz.prog 97 [.g (aq f),.d (.v (.int .i64 i)),.g (dN p),.g (aM p.bad),.d (.v (.int .i64 0))] [.d (.v (.int .i64 (cK i p.ats f p.bad 0)))]):Fn Tryz.prog 46 [.d (.l (rows.map aq)),.d (.v (.int .i64 i)),.g (dN p)] [.d (.v (.int .i64 (c9 i p rows)))]:=by
 by_cases hl:rows.length=2
 rotate_left
 ·rw[show c9 i p rows= -1 from by
   unfold c9;split
   ·exact absurd rfl hl
   ·rfl]
  refine Fn.of Tryz.func46 rfl (by kernel_rfl) Tryz.ntmps46 Tryz.results46 rfl fun w0 S0=>?_;refine wa ?_
  repeat (first | (((try (first | intro K ms hms hK | intro K hK));(first | apply Ch.go | apply Ch.ah);exact rfl;exact rfl;exact Loc.idx (i:=0) rfl rfl rfl rfl rfl rfl);refine wa ?_) | (((try (first | intro K ms hms hK | intro K hK));(first | apply Ch.go | apply Ch.ah);exact rfl;exact rfl;exact Loc.idx (i:=1) rfl rfl rfl rfl rfl rfl);refine wa ?_))
  exact⟨.d rfl (.inl rfl),trivial⟩
 obtain⟨a,c,rfl⟩:∃ a c,rows=[a,c]:=by
  match rows,hl with
  | [a,c],_=>exact⟨a,c,rfl⟩
 obtain⟨ab,aw,al⟩:=a;obtain⟨cb,cw,cl⟩:=c;have hgo:∀ (u v:List UInt8) (ul vl t:List ST) (f:ST),ab=false→cb=false→al= .mk true u ul::t→cl=[.mk true v vl,f]→u=[98,111,120]→v=[98,97,100]→Fn Tryz.prog 46 [.d (.l ([ST.mk ab aw al,.mk cb cw cl].map aq)),.d (.v (.int .i64 i)),.g (dN p)] [.d (.v (.int .i64 (c9 i p [.mk ab aw al,.mk cb cw cl])))]:=by
  rintro u v ul vl t f rfl rfl rfl rfl hu hv;have h1:=hsw _ (List.mem_cons_self ..);rw[fB]at h1;have h2:=htl _ (List.mem_cons_self ..);have:=Ec i p aw cw u v ul vl t f hu hv hk hb (fun x hx=>ca h1.2 x (List.mem_cons_of_mem _ hx)) (by have:(ST.mk true u ul::t).length≤1000000:=h2;rw[List.length_cons]at this;omega) (hfm (.mk false cw [.mk true v vl,f]) (by simp) f (by show f∈[ST.mk true v vl,f];simp));rw[show c9 i p [.mk false aw (.mk true u ul::t),.mk false cw [.mk true v vl,f]]=mZ i p t f from by
   show (if u=[98,111,120]∧v=[98,97,100]then mZ i p t f else-1)=_;rw[if_pos ⟨hu,hv⟩]]
  exact this
 have hrow:[ST.mk ab aw al,.mk cb cw cl].map aq=[[.v (.bool ab),.v (.string (tx aw)),.l (al.map aq)],[.v (.bool cb),.v (.string (tx cw)),.l (cl.map aq)]]:=by rw[List.map_cons,List.map_cons,bE,bE];rfl
 rw[hrow]at hgo ⊢;have hl1:([[.v (.bool ab),.v (.string (tx aw)),.l (al.map aq)],[.v (.bool cb),.v (.string (tx cw)),.l (cl.map aq)]]:List (List D)).length=2:=rfl;clear hsw htl hfm hrow hl;cases ab with
 | true=>
   rw[show c9 i p [.mk true aw al,.mk cb cw cl]= -1 from rfl];refine Fn.of Tryz.func46 rfl (by kernel_rfl) Tryz.ntmps46 Tryz.results46 rfl fun w0 S0=>?_;refine wa ?_
   repeat (first | (((try (first | intro K ms hms hK | intro K hK));(first | apply Ch.go | apply Ch.ah);exact rfl;exact rfl;exact Loc.idx (i:=0) rfl rfl rfl rfl rfl rfl);refine wa ?_) | (((try (first | intro K ms hms hK | intro K hK));(first | apply Ch.go | apply Ch.ah);exact rfl;exact rfl;exact Loc.idx (i:=1) rfl rfl rfl rfl rfl rfl);refine wa ?_))
   exact⟨.d rfl (.inl rfl),trivial⟩
 | false=>
 cases cb with
 | true=>
   rw[show c9 i p [.mk false aw al,.mk true cw cl]= -1 from by
    unfold c9;split
    ·rename_i h;cases h
    ·rfl]
   refine Fn.of Tryz.func46 rfl (by kernel_rfl) Tryz.ntmps46 Tryz.results46 rfl fun w0 S0=>?_;refine wa ?_
   repeat (first | (((try (first | intro K ms hms hK | intro K hK));(first | apply Ch.go | apply Ch.ah);exact rfl;exact rfl;exact Loc.idx (i:=0) rfl rfl rfl rfl rfl rfl);refine wa ?_) | (((try (first | intro K ms hms hK | intro K hK));(first | apply Ch.go | apply Ch.ah);exact rfl;exact rfl;exact Loc.idx (i:=1) rfl rfl rfl rfl rfl rfl);refine wa ?_))
   exact⟨.d rfl (.inl rfl),trivial⟩
 | false=>
 cases al with
 | nil=>
   have h0:([]:List ST).length=0:=rfl;rw[show c9 i p [.mk false aw [],.mk false cw cl]= -1 from rfl];refine Fn.of Tryz.func46 rfl (by kernel_rfl) Tryz.ntmps46 Tryz.results46 rfl fun w0 S0=>?_;refine wa ?_
   repeat (first | (((try (first | intro K ms hms hK | intro K hK));(first | apply Ch.go | apply Ch.ah);exact rfl;exact rfl;exact Loc.idx (i:=0) rfl rfl rfl rfl rfl rfl);refine wa ?_) | (((try (first | intro K ms hms hK | intro K hK));(first | apply Ch.go | apply Ch.ah);exact rfl;exact rfl;exact Loc.idx (i:=1) rfl rfl rfl rfl rfl rfl);refine wa ?_))
   exact⟨.d rfl (.inl rfl),trivial⟩
 | cons a0 t=>
 have h0:(a0::t).length=t.length+1:=List.length_cons ..;have hg0:(a0::t)[0]?=some a0:=rfl;by_cases hc2:cl.length=2
 rotate_left
 ·rw[show c9 i p [.mk false aw (a0::t),.mk false cw cl]= -1 from by
   unfold c9;split
   ·rename_i h;cases h;exact absurd rfl hc2
   ·rfl]
  refine Fn.of Tryz.func46 rfl (by kernel_rfl) Tryz.ntmps46 Tryz.results46 rfl fun w0 S0=>?_;refine wa ?_
  repeat (first | (((try (first | intro K ms hms hK | intro K hK));(first | apply Ch.go | apply Ch.ah);exact rfl;exact rfl;exact Loc.idx (i:=0) rfl rfl rfl rfl rfl rfl);refine wa ?_) | (((try (first | intro K ms hms hK | intro K hK));(first | apply Ch.go | apply Ch.ah);exact rfl;exact rfl;exact Loc.idx (i:=1) rfl rfl rfl rfl rfl rfl);refine wa ?_))
  exact⟨.d rfl (.inl rfl),trivial⟩
 obtain⟨c0,f,rfl⟩:∃ c0 f,cl=[c0,f]:=by
  match cl,hc2 with
  | [c0,f],_=>exact⟨c0,f,rfl⟩
 have hg1:[c0,f][0]?=some c0:=rfl;have h02:[c0,f].length=2:=rfl;obtain⟨ub,u,ul⟩:=a0;obtain⟨vb,v,vl⟩:=c0;cases ub with
 | false=>
   rw[show c9 i p [.mk false aw (.mk false u ul::t),.mk false cw [.mk vb v vl,f]]= -1 from rfl];refine Fn.of Tryz.func46 rfl (by kernel_rfl) Tryz.ntmps46 Tryz.results46 rfl fun w0 S0=>?_;refine wa ?_
   repeat (first | (((try (first | intro K ms hms hK | intro K hK));(first | apply Ch.go | apply Ch.ah);exact rfl;exact rfl;exact Loc.idx (i:=0) rfl rfl rfl rfl rfl rfl);refine wa ?_) | (((try (first | intro K ms hms hK | intro K hK));(first | apply Ch.go | apply Ch.ah);exact rfl;exact rfl;exact Loc.idx (i:=1) rfl rfl rfl rfl rfl rfl);refine wa ?_))
   exact⟨.d rfl (.inl rfl),trivial⟩
 | true=>
 by_cases hu:u=[98,111,120]
 rotate_left
 ·rw[show c9 i p [.mk false aw (.mk true u ul::t),.mk false cw [.mk vb v vl,f]]= -1 from by
   unfold c9;split
   ·rename_i h;cases h;rw[if_neg fun h=>hu h.1]
   ·rfl]
  refine Fn.of Tryz.func46 rfl (by kernel_rfl) Tryz.ntmps46 Tryz.results46 rfl fun w0 S0=>?_;refine wa ?_
  repeat (first | (((try (first | intro K ms hms hK | intro K hK));(first | apply Ch.go | apply Ch.ah);exact rfl;exact rfl;exact Loc.idx (i:=0) rfl rfl rfl rfl rfl rfl);refine wa ?_) | (((try (first | intro K ms hms hK | intro K hK));(first | apply Ch.go | apply Ch.ah);exact rfl;exact rfl;exact Loc.idx (i:=1) rfl rfl rfl rfl rfl rfl);refine wa ?_))
  exact⟨.d rfl (.inl rfl),trivial⟩
 cases vb with
 | false=>
   rw[show c9 i p [.mk false aw (.mk true u ul::t),.mk false cw [.mk false v vl,f]]= -1 from rfl];refine Fn.of Tryz.func46 rfl (by kernel_rfl) Tryz.ntmps46 Tryz.results46 rfl fun w0 S0=>?_;refine wa ?_
   repeat (first | (((try (first | intro K ms hms hK | intro K hK));(first | apply Ch.go | apply Ch.ah);exact rfl;exact rfl;exact Loc.idx (i:=0) rfl rfl rfl rfl rfl rfl);refine wa ?_) | (((try (first | intro K ms hms hK | intro K hK));(first | apply Ch.go | apply Ch.ah);exact rfl;exact rfl;exact Loc.idx (i:=1) rfl rfl rfl rfl rfl rfl);refine wa ?_))
   exact⟨.d rfl (.inl rfl),trivial⟩
 | true=>
 by_cases hv:v=[98,97,100]
 ·exact hgo u v ul vl t f rfl rfl rfl rfl hu hv
 ·rw[show c9 i p [.mk false aw (.mk true u ul::t),.mk false cw [.mk true v vl,f]]= -1 from by
   show (if u=[98,111,120]∧v=[98,97,100]then mZ i p t f else-1)=_;rw[if_neg fun h=>hv h.2]]
  refine Fn.of Tryz.func46 rfl (by kernel_rfl) Tryz.ntmps46 Tryz.results46 rfl fun w0 S0=>?_;refine wa ?_
  repeat (first | (((try (first | intro K ms hms hK | intro K hK));(first | apply Ch.go | apply Ch.ah);exact rfl;exact rfl;exact Loc.idx (i:=0) rfl rfl rfl rfl rfl rfl);refine wa ?_) | (((try (first | intro K ms hms hK | intro K hK));(first | apply Ch.go | apply Ch.ah);exact rfl;exact rfl;exact Loc.idx (i:=1) rfl rfl rfl rfl rfl rfl);refine wa ?_))
  exact⟨.d rfl (.inl rfl),trivial⟩
