import Derived.Test.YthdkkpocihkgbaaGreatDoorPpG
set_option maxRecDepth 100000
set_option maxHeartbeats 16000000
namespace Go.Proofs.YthdkkpocihkgbaaGreatDoor
open Go.RowKit
attribute [local irreducible] AC Do St
theorem B0(l:List Tm):∀ c∈l.map bO,c.length=4:=fun c hc=>by obtain⟨t,_,rfl⟩:=List.mem_map.1 hc;rfl
theorem cI(l:List ST):∀ c∈l.map aq,c.length=3:=fun c hc=>by obtain⟨t,_,rfl⟩:=List.mem_map.1 hc;rfl
def B1(i:Int)(s:ST)(f:Bool):Prop:=(f=false→∀ (k:Rat) (e:Ex),(aP i s k e).1.c=e.c)∧∀ (k:Rat) (e:Ex) (o:Option Rat),vO o=e.c→bz e.c+yX s (bz k)≤49000000→e.t.length+cX s≤1000000→Fn Tryz.prog 154 [.g (aq s),.d (.v (.int .i64 i)),.g (aS k),.g (.l (e.t.map bO)::ia o)] [.g (.l ((aP i s k e).1.t.map bO)::ia (if f=true then some (aP i s k e).1.c else o)),.d (.v (.bool (aP i s k e).2))]
theorem sH{f:Bool}{c d:Rat}{o:Option Rat}(h:vO o=d)(hf:f=false→c=d):vO (if f=true then some c else o)=c:=by
 cases f with
 | true=>rfl
 | false=>rw[if_neg (by decide),h,hf rfl]
def se(i:Int)(F:ST→Bool)(k:Rat):List ST→Ex→Option Rat→Option Rat
 | [],_,o=>o
 | y::r,e,o=>se i F k r (aP i y k e).1 (if F y=true then some (aP i y k e).1.c else o)
theorem uS(i:Int)(F:ST→Bool)(k:Rat):∀ (t:List ST),(∀y∈t,F y=false→∀ e:Ex,(aP i y k e).1.c=e.c)→∀ (e:Ex) (o:Option Rat) (ok:Bool),(t.any F=false→(fW i t k e ok).1.c=e.c)∧se i F k t e o=if t.any F=true then some (fW i t k e ok).1.c else o
 | [],_,e,o,ok=>⟨fun _=>by rw[fW],by rw[se];rfl⟩
 | y::r,h,e,o,ok=>by
   obtain⟨h1,h2⟩:=uS i F k r (fun x hx=>h x (by simp[hx])) (aP i y k e).1 (if F y=true then some (aP i y k e).1.c else o) (ok&&(aP i y k e).2);rw[fW,se,h2,List.any_cons];refine⟨fun hf=>?_,?_⟩
   ·rw[Bool.or_eq_false_iff]at hf;rw[h1 hf.2,h y (by simp) hf.1 e]
   ·cases hr:r.any F with
    | true=>simp
    | false=>
      cases hy:F y with
      | true=>simp[h1 hr]
      | false=>simp
theorem Av(i:Int):∀ (m:Nat) (s:ST),wX s<m→gL s→∃ f,B1 i s f:=by
 intro m
 induction m with
 | zero=>intro s h;omega
 | succ m ih=>
 intro s hm hsw;obtain⟨b,w,l⟩:=s;rw[fB]at hsw;rw[bt]at hm;have hY0:∀ k:Nat,k+4*(w.length+1+bI l)+8≤yX (.mk b w l) k:=fun k=>by unfold yX;rw[aY,bt];exact Nat.le_mul_of_pos_left _ (by omega)
 have hY:∀ k:Nat,yX (.mk b w l) k=(1+aK l)*(k+4*(w.length+1+bI l)+8):=fun k=>by unfold yX;rw[aY,bt]
 unfold B1;rw[aY,bE];cases b with
 | true=>
   have hV:=xh i w;cases hv:(ey i w).2 with
   | true=>
     refine⟨false,fun _ k e=>by rw[pT,hv,if_pos rfl],fun k e o hoc hb hn=>?_⟩;rw[hv]at hV;rw[pT,hv,if_pos rfl,if_neg (by decide)];have e1:(e.t++[((ey i w).1,k)]).map bO=e.t.map bO++[.v (.int .i64 (ey i w).1)::aS k]:=by simp[bO]
     show Fn _ _ _ [.g (.l ((e.t++[((ey i w).1,k)]).map bO)::ia o),.d (.v (.bool true))];rw[e1];refine Fn.of Tryz.func154 rfl (by kernel_rfl) Tryz.ntmps154 Tryz.results154 rfl fun w0 S0=>?_;refine wa ?_;((try (first | intro K ms hms hK | intro K hK));(first | apply Ch.ef | apply Ch.bU);exact rfl;exact rfl;exact Do.append rfl rfl rfl rfl rfl (B0 e.t) (by simp;omega);exact rfl;exact rfl);refine wa ?_;((try (first | intro K ms hms hK | intro K hK));(first | apply Ch.ef | apply Ch.bU);exact rfl;exact rfl;exact Do.EX 43 rfl rfl (by decide) (by simp) (Loc.build rfl rfl rfl rfl);exact rfl;exact rfl);refine wa ?_;exact⟨.cn rfl rfl inferInstance rfl ⟨.inl rfl,.inl rfl,.inl rfl,.inl rfl,trivial⟩,.d rfl (.inl rfl),trivial⟩
   | false=>
     refine⟨true,(fun h=>nomatch h),fun k e o hoc hb hn=>?_⟩;have hY0:=hY0 (bz k);rw[hv]at hV;rw[pT,hv,if_neg (by decide),if_pos rfl];have hN:=mG (.mk true w l) hsw.1;rw[bE,show cd (.mk true w l)=((aX w).getD 0,(aX w).isSome)from rfl]at hN;have hq:=dO w;have h1:=tl (bw k) (bw ((aX w).getD 0)) (by omega);have h2:=FC o (by rw[hoc];have:=dT k ((aX w).getD 0);omega) (bw (k*(aX w).getD 0));rw[hoc]at h2;generalize (aX w).getD 0=q at*;generalize (aX w).isSome=ok at*;show Fn _ _ _ [.g (.l (e.t.map bO)::aS (e.c+k*q)),.d (.v (.bool ok))];refine Fn.of Tryz.func154 rfl (by kernel_rfl) Tryz.ntmps154 Tryz.results154 rfl fun w0 S0=>?_;refine wa ?_;exact⟨.cn rfl rfl inferInstance rfl ⟨.inl rfl,.inl rfl,.inl rfl,.inl rfl,trivial⟩,.d rfl (.inl rfl),trivial⟩
 | false=>
 cases l with
 | nil=>
   refine⟨false,fun _ k e=>by rw[sM],fun k e o hoc hb hn=>?_⟩;rw[sM,if_neg (by decide)];have hl0:([]:List ST).length=0:=rfl;refine Fn.of Tryz.func154 rfl (by kernel_rfl) Tryz.ntmps154 Tryz.results154 rfl fun w0 S0=>?_;refine wa ?_;exact⟨.cn rfl rfl inferInstance rfl ⟨.inl rfl,.inl rfl,.inl rfl,.inl rfl,trivial⟩,.d rfl (.inl rfl),trivial⟩
 | cons h t=>
 obtain⟨hb1,v,hl⟩:=h;have hl0:(ST.mk hb1 v hl::t).length=t.length+1:=List.length_cons ..;have hg0:(ST.mk hb1 v hl::t)[0]?=some (.mk hb1 v hl):=rfl;have hml:(t.map aq).length=t.length:=List.length_map ..;cases hb1 with
 | false=>
   have hrs:∀ (k:Rat) (e:Ex),aP i (.mk false w (.mk false v hl::t)) k e=(e,false):=fun k e=>by rw[sK,if_neg (show ¬(ST.mk false v hl).b=true from fun h=>nomatch h)]
   refine⟨false,fun _ k e=>by rw[hrs],fun k e o hoc hb hn=>?_⟩;rw[hrs,if_neg (by decide)];refine Fn.of Tryz.func154 rfl (by kernel_rfl) Tryz.ntmps154 Tryz.results154 rfl fun w0 S0=>?_;refine wa ?_;exact⟨.cn rfl rfl inferInstance rfl ⟨.inl rfl,.inl rfl,.inl rfl,.inl rfl,trivial⟩,.d rfl (.inl rfl),trivial⟩
 | true=>
 have hrs:∀ (k:Rat) (e:Ex),aP i (.mk false w (.mk true v hl::t)) k e=if v=[43]then fW i t k e true else if v=[45]then iP i t k e else if v=[42]then iQ i t k e else(e,false):=fun k e=>by rw[sK,if_pos (show (ST.mk true v hl).b=true from rfl)];rfl
 rw[aA]at hm;have hwp:=jd (.mk true v hl);have hcp:=jZ (.mk true v hl);have hswt:∀ x∈t,gL x:=fun x hx=>ca hsw.2 x (List.mem_cons_of_mem _ hx);have hBk:∀ k:Nat,aK t*(k+4*bI t+8)+(k+4*bI t+8)≤yX (.mk false w (.mk true v hl::t)) k:=fun k=>by
  rw[hY k,aA,aj,←Nat.succ_mul];exact Nat.mul_le_mul (by omega) (by omega)
 have hcl:=cj t;have hcc:1+aK (ST.mk true v hl::t)=1+(cX (.mk true v hl)+aK t):=by rw[aj]
 rw[hcc];generalize yX (.mk false w (.mk true v hl::t))=YY at*;clear hY hY0 hcc;have hmt:∀ x∈t,wX x<m:=fun x hx=>by have:=(aO hx).1;omega
 have hdr:((ST.mk true v hl::t).map aq).drop 1=t.map aq:=rfl;obtain⟨F,hF⟩:∃ F:ST→Bool,∀x∈t,B1 i x (F x):=⟨fun x=>open Classical in if h:x∈t then(ih x (hmt x h) (hswt x h)).choose else false,fun x hx=>by dsimp only;rw[dif_pos hx];exact(ih x (hmt x hx) (hswt x hx)).choose_spec⟩
 clear ih hmt;by_cases u1:v=[43]
 ·have hkeep:∀ k:Rat,∀y∈t,F y=false→∀ e:Ex,(aP i y k e).1.c=e.c:=fun k y hy hf e=>(hF y hy).1 hf k e;refine⟨t.any F,fun hf k e=>by rw[hrs,if_pos u1];exact(uS i F k t (hkeep k) e none true).1 hf,fun k e o hoc hb hn=>?_⟩;have hB:=hBk (bz k);have hOX:=(uS i F k t (hkeep k) e o true).2;have htl:t.length≤1000000:=by omega
  rw[hrs,if_pos u1,←hOX];obtain⟨R,hR⟩:∃ R,fW i t k e true=R:=⟨_,rfl⟩
  obtain⟨O,hO⟩:∃ O,se i F k t e o=O:=⟨_,rfl⟩
  rw[hR,hO];clear hOX hkeep;refine Fn.of Tryz.func154 rfl (by kernel_rfl) Tryz.ntmps154 Tryz.results154 rfl fun w0 S0=>?_;refine wa ?_;((try (first | intro K ms hms hK | intro K hK));(first | apply Ch.go | apply Ch.ah);exact rfl;exact rfl;exact Loc.cC 1 rfl rfl rfl rfl (by simp) (cI _));rw[hdr];refine wa ?_;refine AC.loop (X:=Nat×Ex×Bool×Option Rat) (fun x=>⟨[(1,.d (.v (.int .i64 i))),(6,.p 6 0),(7,.p 7 0),(8,.p 8 0),(15,.d (.v (.bool x.2.2.1))),(85,.d (.l (t.map aq))),(86,.d (.v (.int .i64 (t.length:Int)))),(87,.d (.v (.int .i64 (x.1:Int))))],[(6,.box 136 ((aS k).map .d)),(7,.box 175 ((.l (x.2.1.t.map bO)::ia x.2.2.2).map .d)),(8,.box 175 [.d .n,.d (.v (.bool false)),.d .n,.d .n])]⟩) (fun x=>x.1≤t.length∧bz x.2.1.c+aK (t.drop x.1)*(bz k+4*bI t+8)≤49000000∧x.2.1.t.length+aK (t.drop x.1)≤1000000∧fW i (t.drop x.1) k x.2.1 x.2.2.1=R∧se i F k (t.drop x.1) x.2.1 x.2.2.2=O∧vO x.2.2.2=x.2.1.c) (fun x=>t.length-x.1) (0,e,true,o) ⟨Nat.zero_le _,by dsimp only;rw[List.drop_zero];omega,by dsimp only;rw[List.drop_zero];omega,hR,hO,hoc⟩ ⟨rfl,rfl,rfl,rfl,rfl,rfl,rfl,rfl,trivial⟩ ⟨rfl,rfl,rfl,trivial⟩ ?_;intro ⟨j,f,ok,oj⟩ ⟨hj,q1,q2,hgo,hgO,hvo⟩;dsimp only at hj q1 q2 hgo hgO hvo ⊢;by_cases g1:j<t.length
  ·have hg:t[j]?=some t[j]:=List.getElem?_eq_getElem g1;rw[List.drop_eq_getElem_cons g1,fW]at hgo;rw[List.drop_eq_getElem_cons g1,se]at hgO;rw[List.drop_eq_getElem_cons g1,aj]at q1 q2;have hmem:=List.getElem_mem g1;generalize t[j]=y at hg hgo hgO q1 q2 hmem;have hw:=(aO hmem).1;have hyB:yX y (bz k)≤cX y*(bz k+4*bI t+8):=Nat.mul_le_mul_left _ (by omega);rw[Nat.add_mul]at q1;obtain⟨b1,b2,b3⟩:=nE i _ y (Nat.lt_succ_self _) k f;have hr:=(hF y hmem).2 k f oj hvo (by omega) (by omega);have hv2:=sH hvo fun hh=>(hF y hmem).1 hh k f;generalize (if F y=true then some (aP i y k f).1.c else oj)=o2 at*;generalize aP i y k f=r at*;obtain⟨f',ok'⟩:=r;dsimp only at hr hgo hgO hv2 b1 b2 b3;cases ok with
   | false=>
     refine wa ?_;exact⟨(j+1,f',false,o2),⟨g1,by dsimp only;omega,by dsimp only;omega,hgo,hgO,hv2⟩,by dsimp only;omega,⟨rfl,rfl,rfl,rfl,rfl,rfl,rfl,rfl,trivial⟩,⟨rfl,rfl,rfl,trivial⟩⟩
   | true=>
     refine wa ?_;exact⟨(j+1,f',ok',o2),⟨g1,by dsimp only;omega,by dsimp only;omega,hgo,hgO,hv2⟩,by dsimp only;omega,⟨rfl,rfl,rfl,rfl,rfl,rfl,rfl,rfl,trivial⟩,⟨rfl,rfl,rfl,trivial⟩⟩
  ·rw[List.drop_eq_nil_of_le (by omega),fW]at hgo;rw[List.drop_eq_nil_of_le (by omega),se]at hgO;subst hgo hgO;refine wa ?_;exact⟨.cn rfl rfl inferInstance rfl ⟨.inl rfl,.inl rfl,.inl rfl,.inl rfl,trivial⟩,.d rfl (.inl rfl),trivial⟩
 have two:∀ (x y:ST),t=[x,y]→aK t=cX x+cX y∧bI t=wX x+wX y:=fun x y e=>by subst e;rw[aj,aj,bd,aA,aA,cT];exact⟨rfl,rfl⟩
 by_cases u2:v=[45]
 ·have u3:v≠[42]:=fun h=>by rw[h]at u2;cases u2
  have hrs:∀ (k:Rat) (e:Ex),aP i (.mk false w (.mk true v hl::t)) k e=iP i t k e:=fun k e=>by rw[hrs,if_neg u1,if_pos u2]
  match t,hl0,hml,hswt,hF,hdr,two,hcl,hBk,hrs with
  | [],hl0,hml,_,_,hdr,_,_,_,hrs=>
    refine⟨false,fun _ k e=>by rw[hrs,iP],fun k e o hoc hb hn=>?_⟩;rw[hrs,iP,if_neg (by decide)];have hl1:([]:List ST).length=0:=rfl;refine Fn.of Tryz.func154 rfl (by kernel_rfl) Tryz.ntmps154 Tryz.results154 rfl fun w0 S0=>?_;refine wa ?_;((try (first | intro K ms hms hK | intro K hK));(first | apply Ch.go | apply Ch.ah);exact rfl;exact rfl;exact Loc.cC 1 rfl rfl rfl rfl (by simp) (cI _));rw[hdr];refine wa ?_;exact⟨.cn rfl rfl inferInstance rfl ⟨.inl rfl,.inl rfl,.inl rfl,.inl rfl,trivial⟩,.d rfl (.inl rfl),trivial⟩
  | [x],hl0,hml,hswt,hF,hdr,_,_,hBk,hrs=>
    obtain⟨hf1,hf2⟩:=hF x (by simp);refine⟨F x,fun hf k e=>by rw[hrs,iP];exact hf1 hf _ _,fun k e o hoc hb hn=>?_⟩;have hB:=hBk (bz k);rw[hrs,iP];have hl1:[x].length=1:=rfl;have hg1:[x][0]?=some x:=rfl;rw[aj,bd,aA,cT]at hB;rw[aj,bd]at hn;have hneg:=wZ k;have hyB:yX x (bz k)≤(cX x+0)*(bz k+4*(wX x+0)+8):=Nat.le_refl _;have hr:=hf2 (-k) e o hoc (by rw[fC];omega) (by omega);generalize (if F x=true then some (aP i x (-k) e).1.c else o)=o2 at*;generalize aP i x (-k) e=r at*;refine Fn.of Tryz.func154 rfl (by kernel_rfl) Tryz.ntmps154 Tryz.results154 rfl fun w0 S0=>?_;refine wa ?_;((try (first | intro K ms hms hK | intro K hK));(first | apply Ch.go | apply Ch.ah);exact rfl;exact rfl;exact Loc.cC 1 rfl rfl rfl rfl (by simp) (cI _));rw[hdr];refine wa ?_;exact⟨.cn rfl rfl inferInstance rfl ⟨.inl rfl,.inl rfl,.inl rfl,.inl rfl,trivial⟩,.d rfl (.inl rfl),trivial⟩
  | [x,y],hl0,hml,hswt,hF,hdr,two,_,hBk,hrs=>
    obtain⟨hf1,hf2⟩:=hF x (by simp);obtain⟨hy1,hy2⟩:=hF y (by simp);refine⟨F x||F y,fun hf k e=>by rw[Bool.or_eq_false_iff]at hf;rw[hrs,iP];dsimp only;rw[hy1 hf.2,hf1 hf.1],fun k e o hoc hb hn=>?_⟩;have hB:=hBk (bz k);obtain⟨z1,z2⟩:=two _ _ rfl;rw[z1]at hB hn;rw[z2]at hB;rw[hrs,iP];have hl1:[x,y].length=2:=rfl;have hg1:[x,y][0]?=some x:=rfl;have hg2:[x,y][1]?=some y:=rfl;have hneg:=wZ k;have y1:yX x (bz k)≤cX x*(bz k+4*(wX x+wX y)+8):=Nat.mul_le_mul_left _ (by omega);have y2:yX y (bz k)≤cX y*(bz k+4*(wX x+wX y)+8):=Nat.mul_le_mul_left _ (by omega);rw[Nat.add_mul]at hB;obtain⟨b1,b2,b3⟩:=nE i _ x (Nat.lt_succ_self _) k e;have hr:=hf2 k e o hoc (by omega) (by omega);have hv2:=sH hoc fun hh=>hf1 hh k e;have hr2:=hy2 (-k) (aP i x k e).1 _ hv2 (by rw[fC];omega) (by omega);have hoo:(if F y=true then some (aP i y (-k) (aP i x k e).1).1.c else if F x=true then some (aP i x k e).1.c else o)=if (F x||F y)=true then some (aP i y (-k) (aP i x k e).1).1.c else o:=by
     cases hfy:F y with
     | true=>cases F x<;>rfl
     | false=>rw[hy1 hfy];cases F x<;>rfl
    rw[hoo]at hr2;dsimp only;generalize (if (F x||F y)=true then some (aP i y (-k) (aP i x k e).1).1.c else o)=o3 at*;generalize (if F x=true then some (aP i x k e).1.c else o)=o2 at*;generalize aP i x k e=r at*;obtain⟨f,ok⟩:=r;dsimp only at hr hr2 b1 b2 b3 ⊢;generalize aP i y (-k) f=r2 at*;obtain⟨f2,ok2⟩:=r2;clear hoo;cases ok
    all_goals
     refine Fn.of Tryz.func154 rfl (by kernel_rfl) Tryz.ntmps154 Tryz.results154 rfl fun w0 S0=>?_;refine wa ?_;((try (first | intro K ms hms hK | intro K hK));(first | apply Ch.go | apply Ch.ah);exact rfl;exact rfl;exact Loc.cC 1 rfl rfl rfl rfl (by simp) (cI _));rw[hdr];refine wa ?_
     first | refine c1 hr ?_ | refine c1 hr2 ?_
     refine wa ?_;exact⟨.cn rfl rfl inferInstance rfl ⟨.inl rfl,.inl rfl,.inl rfl,.inl rfl,trivial⟩,.d rfl (.inl rfl),trivial⟩
  | x::y::z::r,hl0,hml,_,_,hdr,_,hcl,_,hrs=>
    refine⟨false,fun _ k e=>by rw[hrs,iP],fun k e o hoc hb hn=>?_⟩;rw[hrs,iP,if_neg (by decide)];have hl1:(x::y::z::r).length=r.length+3:=rfl;refine Fn.of Tryz.func154 rfl (by kernel_rfl) Tryz.ntmps154 Tryz.results154 rfl fun w0 S0=>?_;refine wa ?_;((try (first | intro K ms hms hK | intro K hK));(first | apply Ch.go | apply Ch.ah);exact rfl;exact rfl;exact Loc.cC 1 rfl rfl rfl rfl (by simp) (cI _));rw[hdr];refine wa ?_;exact⟨.cn rfl rfl inferInstance rfl ⟨.inl rfl,.inl rfl,.inl rfl,.inl rfl,trivial⟩,.d rfl (.inl rfl),trivial⟩
 by_cases u3:v=[42]
 ·have hrs:∀ (k:Rat) (e:Ex),aP i (.mk false w (.mk true v hl::t)) k e=iQ i t k e:=fun k e=>by rw[hrs,if_neg u1,if_neg u2,if_pos u3]
  match t,hl0,hml,hswt,hF,hdr,two,hcl,hBk,hrs with
  | [],hl0,hml,_,_,hdr,_,_,_,hrs=>
    refine⟨false,fun _ k e=>by rw[hrs,iQ],fun k e o hoc hb hn=>?_⟩;rw[hrs,iQ,if_neg (by decide)];have hl1:([]:List ST).length=0:=rfl;refine Fn.of Tryz.func154 rfl (by kernel_rfl) Tryz.ntmps154 Tryz.results154 rfl fun w0 S0=>?_;refine wa ?_;((try (first | intro K ms hms hK | intro K hK));(first | apply Ch.go | apply Ch.ah);exact rfl;exact rfl;exact Loc.cC 1 rfl rfl rfl rfl (by simp) (cI _));rw[hdr];refine wa ?_;exact⟨.cn rfl rfl inferInstance rfl ⟨.inl rfl,.inl rfl,.inl rfl,.inl rfl,trivial⟩,.d rfl (.inl rfl),trivial⟩
  | [x],hl0,hml,_,_,hdr,_,_,_,hrs=>
    refine⟨false,fun _ k e=>by rw[hrs,iQ],fun k e o hoc hb hn=>?_⟩;rw[hrs,iQ,if_neg (by decide)];have hl1:[x].length=1:=rfl;refine Fn.of Tryz.func154 rfl (by kernel_rfl) Tryz.ntmps154 Tryz.results154 rfl fun w0 S0=>?_;refine wa ?_;((try (first | intro K ms hms hK | intro K hK));(first | apply Ch.go | apply Ch.ah);exact rfl;exact rfl;exact Loc.cC 1 rfl rfl rfl rfl (by simp) (cI _));rw[hdr];refine wa ?_;exact⟨.cn rfl rfl inferInstance rfl ⟨.inl rfl,.inl rfl,.inl rfl,.inl rfl,trivial⟩,.d rfl (.inl rfl),trivial⟩
  | [x,y],hl0,hml,hswt,hF,hdr,two,_,hBk,hrs=>
    obtain⟨hy1,hy2⟩:=hF y (by simp);refine⟨F y,fun hf k e=>by rw[hrs,iQ];exact hy1 hf _ _,fun k e o hoc hb hn=>?_⟩;have hB:=hBk (bz k);obtain⟨z1,z2⟩:=two _ _ rfl;rw[z1]at hB hn;rw[z2]at hB;rw[hrs,iQ];have hl1:[x,y].length=2:=rfl;have hg1:[x,y][0]?=some x:=rfl;have hg2:[x,y][1]?=some y:=rfl;have hx:=jB x;have hq:bz (cd x).1≤4*x.w.length+4:=by
     unfold cd;split
     ·exact dO x.w
     ·dsimp only;rw[dX];omega
    have hmul:=dT k (cd x).1;have y2:yX y (bz (k*(cd x).1))≤cX y*(bz k+4*(wX x+wX y)+8):=Nat.mul_le_mul_left _ (by omega);have y3:cX y*(bz k+4*(wX x+wX y)+8)≤(cX x+cX y)*(bz k+4*(wX x+wX y)+8):=Nat.mul_le_mul_right _ (by omega);have hN:=mG x (iZ (hswt x (by simp)));have hM:=tl (bw k) (bw (cd x).1) (by omega);have hr:=hy2 (k*(cd x).1) e o hoc (by omega) (by omega);dsimp only;generalize (if F y=true then some (aP i y (k*(cd x).1) e).1.c else o)=o2 at*;generalize aP i y (k*(cd x).1) e=r at*;generalize cd x=nq at*;obtain⟨q,qo⟩:=nq;dsimp only at*;cases qo
    all_goals
     refine Fn.of Tryz.func154 rfl (by kernel_rfl) Tryz.ntmps154 Tryz.results154 rfl fun w0 S0=>?_;refine wa ?_;((try (first | intro K ms hms hK | intro K hK));(first | apply Ch.go | apply Ch.ah);exact rfl;exact rfl;exact Loc.cC 1 rfl rfl rfl rfl (by simp) (cI _));rw[hdr];refine wa ?_;exact⟨.cn rfl rfl inferInstance rfl ⟨.inl rfl,.inl rfl,.inl rfl,.inl rfl,trivial⟩,.d rfl (.inl rfl),trivial⟩
  | x::y::z::r,hl0,hml,_,_,hdr,_,hcl,_,hrs=>
    refine⟨false,fun _ k e=>by rw[hrs,iQ],fun k e o hoc hb hn=>?_⟩;rw[hrs,iQ,if_neg (by decide)];have hl1:(x::y::z::r).length=r.length+3:=rfl;refine Fn.of Tryz.func154 rfl (by kernel_rfl) Tryz.ntmps154 Tryz.results154 rfl fun w0 S0=>?_;refine wa ?_;((try (first | intro K ms hms hK | intro K hK));(first | apply Ch.go | apply Ch.ah);exact rfl;exact rfl;exact Loc.cC 1 rfl rfl rfl rfl (by simp) (cI _));rw[hdr];refine wa ?_;exact⟨.cn rfl rfl inferInstance rfl ⟨.inl rfl,.inl rfl,.inl rfl,.inl rfl,trivial⟩,.d rfl (.inl rfl),trivial⟩
 refine⟨false,fun _ k e=>by rw[hrs,if_neg u1,if_neg u2,if_neg u3],fun k e o hoc hb hn=>?_⟩;rw[hrs,if_neg u1,if_neg u2,if_neg u3,if_neg (by decide)];refine Fn.of Tryz.func154 rfl (by kernel_rfl) Tryz.ntmps154 Tryz.results154 rfl fun w0 S0=>?_;refine wa ?_;((try (first | intro K ms hms hK | intro K hK));(first | apply Ch.go | apply Ch.ah);exact rfl;exact rfl;exact Loc.cC 1 rfl rfl rfl rfl (by simp) (cI _));rw[hdr];refine wa ?_;exact⟨.cn rfl rfl inferInstance rfl ⟨.inl rfl,.inl rfl,.inl rfl,.inl rfl,trivial⟩,.d rfl (.inl rfl),trivial⟩
