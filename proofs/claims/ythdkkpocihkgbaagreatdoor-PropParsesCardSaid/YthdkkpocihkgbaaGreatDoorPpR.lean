import Derived.Test.YthdkkpocihkgbaaGreatDoorPrZ
import Derived.Test.YthdkkpocihkgbaaGreatDoorPpQ
import Derived.Test.YthdkkpocihkgbaaGreatDoorPpN
import Derived.Test.YthdkkpocihkgbaaGreatDoorPpC
set_option maxRecDepth 100000
set_option maxHeartbeats 8000000
namespace Go.Proofs.YthdkkpocihkgbaaGreatDoor
open Go.RowKit
section
variable {P:Program}{C:Cx}{o:Oper}{σ:AS}
end
attribute [local irreducible] AC Do St
theorem tk{α β:Type}(f:α→β){l:List α}{j:Nat}(h:j<l.length):(l.take (j+1)).map f=(l.take j).map f++[f l[j]]:=by
 rw[List.take_succ_eq_append_getElem h,List.map_append];rfl
theorem C4{k:Nat}(l:List At)(hk:k≤10000000)(hl:∀ a∈l,Bd k a.e.c∧(∀t∈a.e.t,Bd k t.2)∧a.e.t.length≤1000000)(hlen:l.length≤1000000):Fn Tryz.prog 78 [.d (.l (l.map fG))] [.d (.l (l.map iK))]:=by
 have hml:(l.map fG).length=l.length:=List.length_map ..;refine Fn.of Tryz.func78 rfl (by kernel_rfl) Tryz.ntmps78 Tryz.results78 rfl fun w0 S0=>?_;refine wk ?_;refine AC.loop (X:=Nat) (fun j=>⟨[(3,.r 6 j),(7,.d (.l (l.map fG))),(8,.d (.v (.int .i64 (l.length:Int)))),(9,.d (.v (.int .i64 (j:Int))))],[(6,.row j 177 5 ((l.take j).map iK))]⟩) (fun j=>j≤l.length) (fun j=>l.length-j) 0 (Nat.zero_le _) ⟨rfl,rfl,rfl,rfl,trivial⟩ ⟨rfl,trivial⟩ ?_;intro j hj;dsimp only at hj ⊢;refine wk ?_;refine s1 (fun g1=>?_) (fun g1=>?_)
 ·have hj1:j<l.length:=by omega
  have hg:l[j]?=some l[j]:=List.getElem?_eq_getElem hj1;obtain⟨q1,q2,q3⟩:=hl _ (List.getElem_mem hj1);have hts:(l.take (j+1)).map iK=(l.take j).map iK++[iK l[j]]:=tk iK hj1;generalize l[j]=a at hg q1 q2 q3 hts;refine wk ?_;refine c1 (EE a k hk q1 q2 q3) ?_;refine wk ?_;exact⟨j+1,hj1,by omega,⟨rfl,rfl,rfl,rfl,trivial⟩,⟨by rw[hts];rfl,trivial⟩⟩
 ·obtain rfl:j=l.length:=by omega
  rw[List.take_length];(first | intro K ms hms hK | intro K hK | skip);refine Ch.br 3 rfl rfl ?_;refine wk ?_;exact⟨.d rfl (.inl rfl),trivial⟩
def wN(p:PP):PP:=⟨p.box,p.ats,ki p.bad⟩
theorem B8{k:Nat}(p:PP)(hk:k≤10000000)(hb:lJ k p)(hl:∀ a∈p.ats,Bd k a.e.c∧(∀t∈a.e.t,Bd k t.2)∧a.e.t.length≤1000000)(hlen:p.ats.length≤1000000)(hok:dG p.bad):Fn Tryz.prog 34 [.g (fi p)] [.g (dN (wN p))]:=by
 have hL:=C4 p.ats hk hl hlen;have hT:=Cd p.bad hok;obtain⟨bx,ats,bad⟩:=p;obtain⟨hb1,hb2⟩:=hb;dsimp only at hL hT hb1 hb2;rw[show fi ⟨bx,ats,bad⟩=[.l (bx.map fe),.l (ats.map fG)]++aM bad from rfl,show dN (wN ⟨bx,ats,bad⟩)=[.l (bx.map jK),.l (ats.map iK)]++aM (ki bad)from rfl];have hml:(bx.map fe).length=bx.length:=List.length_map ..;refine Fn.of Tryz.func34 rfl (by kernel_rfl) Tryz.ntmps34 Tryz.results34 rfl fun w0 S0=>?_;refine wk ?_;refine c1 hL ?_;refine wk ?_;refine c1 hT ?_;refine wk ?_;refine AC.mj 3 0 20 172 6 rfl rfl rfl ?_;refine AC.loop (X:=Nat) (fun j=>⟨[(2,.p 2 0),(3,.p 3 0),(14,.d (.l (bx.map fe))),(15,.d (.v (.int .i64 (bx.length:Int)))),(16,.d (.v (.int .i64 (j:Int))))],[(2,.box 92 [.d .n,.d .n,.d (.v (.int .i64 0)),.d (.v (.int .i64 0)),.d .n]),(3,.box 92 ([AV.r 20 j,.d (.l (ats.map iK))]++(aM (ki bad)).map .d)),(20,.row j 172 6 ((bx.take j).map jK))]⟩) (fun j=>j≤bx.length) (fun j=>bx.length-j) 0 (Nat.zero_le _) ⟨rfl,rfl,rfl,rfl,rfl,trivial⟩ ⟨rfl,rfl,rfl,trivial⟩ ?_;intro j hj;dsimp only at hj ⊢;refine wk ?_;refine s1 (fun g1=>?_) (fun g1=>?_)
 ·have hj1:j<bx.length:=by omega
  have hg:bx[j]?=some bx[j]:=List.getElem?_eq_getElem hj1;obtain⟨q1,q2⟩:=hb1 _ (List.getElem_mem hj1);have hts:(bx.take (j+1)).map jK=(bx.take j).map jK++[aS bx[j].1++aS bx[j].2]:=tk jK hj1;generalize bx[j]=s at hg q1 q2 hts;obtain⟨lo,hi⟩:=s;dsimp only at q1 q2 hts;refine wk ?_;refine c1 (wB q1 hk) ?_;refine wk ?_;refine c1 (wB q2 hk) ?_;refine wk ?_;exact⟨j+1,hj1,by omega,⟨rfl,rfl,rfl,rfl,rfl,trivial⟩,⟨rfl,rfl,by rw[hts];rfl,trivial⟩⟩
 ·obtain rfl:j=bx.length:=by omega
  rw[List.take_length];(first | intro K ms hms hK | intro K hK | skip);refine Ch.gT 3 0 rfl rfl rfl ?_;refine wk ?_;exact⟨.cn rfl rfl inferInstance rfl ⟨.inl rfl,.inl rfl,.inl rfl,.inl rfl,.inl rfl,trivial⟩,trivial⟩
end Go.Proofs.YthdkkpocihkgbaaGreatDoor
namespace Go.Proofs.YthdkkpocihkgbaaGreatDoor
open Go.RowKit
attribute [local irreducible] AC Do St
theorem wu{n:Nat}(h0:n≠0)(h:n<1000000000):bJ 1000000000 n=[n]:=by
 rw[lR h0,Nat.mod_eq_of_lt h,Nat.div_eq_of_lt h,(iu (by omega)).2 rfl]
theorem oZ{n:Nat}(h0:n≠0)(h:n<1000000000):dc n=gh (ic n):=by
 unfold dc lQ;rw[if_neg h0,wu h0 h];simp
theorem vF:dc 1=[49]:=(oZ (by decide) (by decide)).trans (by kernel_rfl)
theorem Bj:dc 2=[50]:=(oZ (by decide) (by decide)).trans (by kernel_rfl)
theorem uM:cr 0=[48]:=rfl
theorem Aa:cr 1=[49]:=by
 show (if (1:Rat).num<0 then [45]else [])++(dc 1++_)=_;rw[vF];rfl
theorem zC:cr 2=[50]:=by
 show (if (2:Rat).num<0 then [45]else [])++(dc 2++_)=_;rw[Bj];rfl
theorem yH:cr (-1)=[45,49]:=by
 show (if (-1:Rat).num<0 then [45]else [])++(dc 1++_)=_;rw[vF];rfl
def awTx:List UInt8:=[40,98,111,120,32,40,48,32,49,41,41,32,40,98,97,100,32,40,62,32,121,48,32,40,42,32,50,32,120,48,41,41,41]
def xo:List UInt8:=[40,98,111,120,32,40,48,32,49,41,41,10,40,98,97,100,32,40,60,32,40,43,32,40,42,32,50,32,120,48,41,32,40,42,32,45,49,32,121,48,41,41,32,48,41,41,10]
def np:ST:= .mk false [] [aH [42],aH [50],aH [120,48]]
def nN:ST:= .mk false [] [aH [62],aH [121,48],np]
def sX:ST:= .mk false [] [aH [98,111,120],.mk false [] [aH [48],aH [49]]]
def wF:ST:= .mk false [] [aH [98,97,100],nN]
def pV:At:=⟨⟨[(0,2),(1,-1)],0⟩,2⟩
def awP:PP:=⟨[(0,1)],[pV],.mk 1 0 []⟩
theorem sU:ay (awTx.length+1) 0 awTx 0= .ok [sX,wF] [] 14:=by kernel_rfl
theorem Au:Form [((0:Int),(2:Rat)),(1,-1)]:=⟨by simp,fun t ht=>by
 rcases List.mem_cons.1 ht with rfl | ht
 ·decide
 ·rw[List.mem_singleton.1 ht];decide⟩
theorem DE:ak 1 (aH [121,48])=(⟨[(1,1)],0⟩,true):=by
 unfold aH;rw[jy,if_pos rfl];unfold lA;rw[show ey 1 [121,48]=(1,true)from by decide+kernel];rfl
theorem DO:ak 1 (aH [120,48])=(⟨[(0,1)],0⟩,true):=by
 unfold aH;rw[jy,if_pos rfl];unfold lA;rw[show ey 1 [120,48]=(0,true)from by decide+kernel];rfl
theorem tO(w:List UInt8)(q:Rat)(h:aX w=some q):aZ (aH w)=(q,true):=by
 unfold aZ aH;dsimp only[ST.w,ST.b];rw[h];rfl
theorem DK:aX [48]=some 0:=by decide+kernel
theorem EF:aX [49]=some 1:=by decide+kernel
theorem DZ:aX [50]=some 2:=by decide+kernel
theorem B3:ak 1 np=(⟨[(0,2)],0⟩,true):=by
 unfold np;rw[yf];show pk 1 [42] [aH [50],aH [120,48]]=_;unfold pk;rw[if_neg (by decide),if_neg (by decide),if_pos rfl];dsimp only;rw[tO [50] 2 DZ,DO];dsimp only;unfold cy;have h1:([((0:Int),(1:Rat))].map (fE 2))=[((0:Int),(2:Rat))]:=by decide+kernel
 have h2:(2:Rat)*0=0:=by decide+kernel
 rw[h1,h2,lv (l:=[((0:Int),(2:Rat))]) ⟨by simp,fun t ht=>by rw[List.mem_singleton.1 ht];decide⟩];rfl
theorem Cs:cH ⟨[(0,2)],0⟩ ⟨[(1,1)],0⟩=⟨[(0,2),(1,-1)],0⟩:=by
 unfold cH cy eK;dsimp only;have h1:([((1:Int),(1:Rat))].map (fE (-1)))=[((1:Int),(-1:Rat))]:=by decide+kernel
 have h2:(0:Rat)+(-1)*0=0:=by decide+kernel
 rw[h1,h2,lv (l:=[((1:Int),(-1:Rat))]) ⟨by simp,fun t ht=>by rw[List.mem_singleton.1 ht];decide⟩];rw[show ([((0:Int),(2:Rat))]++[((1:Int),(-1:Rat))])=[((0:Int),(2:Rat)),(1,-1)]from rfl,lv Au]
theorem ED:aE 1 nN 0=(.mk 1 0 [],[pV],true):=by
 unfold nN;rw[ll,if_pos (show (aH [62]).b=true from rfl),if_neg (show ¬aD (aH [62]).w≠0 from by decide)];show jc 0 (dY 1 [62] [aH [121,48],np])=_;rw[show dY 1 [62] [aH [121,48],np]=some (⟨if ([62]:List UInt8).head?=some 62 then cH (ak 1 np).1 (ak 1 (aH [121,48])).1 else cH (ak 1 (aH [121,48])).1 (ak 1 np).1,dh [62]⟩,(ak 1 (aH [121,48])).2&&(ak 1 np).2)from rfl];rw[DE,B3,if_pos (by decide)];dsimp only;rw[Cs];rfl
theorem En:dv 1 [sX,wF]=some awP:=by
 show (if [98,111,120]=[98,111,120]∧[98,97,100]=[98,97,100]∧([ST.mk false [] [aH [48],aH [49]]]).all gJ=true then(if (dS [.mk false [] [aH [48],aH [49]]]&&(aE 1 nN 0).2.2)=true then some (⟨[(bZ (.mk false [] [aH [48],aH [49]])).1],(aE 1 nN 0).2.1,(aE 1 nN 0).1⟩:PP)else none)else none)=_;have hs:bZ (.mk false [] [aH [48],aH [49]])=((0,1),true):=by
  show (((aZ (aH [48])).1,(aZ (aH [49])).1),(aZ (aH [48])).2&&(aZ (aH [49])).2)=_;rw[tO [48] 0 DK,tO [49] 1 EF];rfl
 simp only[dS,List.all_cons,List.all_nil,hs,ED];rfl
theorem ud:dJ (dD awP.bad awP.ats.length) awP.box awP.ats 1 1=0:=by decide+kernel
theorem CB:jN awTx 1 1=[.g (fi awP),.d (.v (.int .i64 0))]:=by
 unfold jN;rw[if_neg (by decide),sU];show uN 1 1 (dv 1 [sX,wF])=_;rw[En];show (if gj awP 1 1=0 then _ else _)=_;rw[if_pos (show gj awP 1 1=0 from ud)]
theorem Bg:su awTx:=by
 intro l r m h;rw[sU]at h;cases h;refine⟨fun s hs=>?_,fun c hc f hf=>?_⟩
 ·have sw:∀ w:List UInt8,w.length≤20000→gL (aH w):=fun w h=>by unfold aH;rw[fB,kQ];exact⟨h,trivial⟩
  have sl:∀ l:List ST,(∀x∈l,gL x)→gL (.mk false [] l):=fun l h=>by
   rw[fB];refine⟨by decide,?_⟩;clear hs
   induction l with
   | nil=>rw[kQ];trivial
   | cons x r ih=>rw[kQ];exact⟨h x (by simp),ih fun y hy=>h y (by simp[hy])⟩
  rcases List.mem_cons.1 hs with rfl | hs
  ·refine sl _ fun x hx=>?_;simp only[List.mem_cons,List.not_mem_nil,or_false]at hx;rcases hx with rfl | rfl
   ·exact sw _ (by decide)
   ·refine sl _ fun x hx=>?_;simp only[List.mem_cons,List.not_mem_nil,or_false]at hx;rcases hx with rfl | rfl<;>exact sw _ (by decide)
  ·rw[List.mem_singleton.1 hs];refine sl _ fun x hx=>?_;simp only[List.mem_cons,List.not_mem_nil,or_false]at hx;rcases hx with rfl | rfl
   ·exact sw _ (by decide)
   ·refine sl _ fun x hx=>?_;simp only[List.mem_cons,List.not_mem_nil,or_false]at hx;rcases hx with rfl | rfl | rfl
    ·exact sw _ (by decide)
    ·exact sw _ (by decide)
    ·refine sl _ fun x hx=>?_;simp only[List.mem_cons,List.not_mem_nil,or_false]at hx;rcases hx with rfl | rfl | rfl<;>exact sw _ (by decide)
 ·rcases List.mem_cons.1 hc with rfl | hc
  ·have e:f= .mk false [] [aH [48],aH [49]]:=by
    have:(aG sX).2=[.mk false [] [aH [48],aH [49]]]:=rfl;rw[this]at hf;injection hf with h;exact h.symm
   subst e;exact⟨.small (by decide+kernel),by decide+kernel⟩
  ·obtain rfl:=List.mem_singleton.1 hc;have e:f=nN:=by
    have:(aG wF).2=[nN]:=rfl;rw[this]at hf;injection hf with h;exact h.symm
   subst e;exact⟨.small (by decide+kernel),by decide+kernel⟩
theorem rb:fu awP 1=[sX,.mk false [] [aH [98,97,100],.mk false [] [aH [60],.mk false [] [aH [43],.mk false [] [aH [42],aH [50],aH [120,48]],.mk false [] [aH [42],aH [45,49],aH [121,48]]],aH [48]]]]:=by
 unfold fu awP;dsimp only;rw[vy,if_pos rfl];show [_,ST.mk false [] [aH [98,97,100],qZ 1 pV]]=_;unfold qZ pV;dsimp only;rw[lv Au,show (-(0:Rat))=0 from by decide+kernel,uM];show [ST.mk false [] [aH [98,111,120],.mk false [] [aH (cr 0),aH (cr 1)]],ST.mk false [] [aH [98,97,100],.mk false [] [aH (vM 2),.mk false [] [aH [43],.mk false [] [aH [42],aH (cr 2),aH (lE 0 1)],.mk false [] [aH [42],aH (cr (-1)),aH (lE 1 1)]],aH [48]]]]=_;rw[uM,Aa,zC,yH,show lE 0 1=[120,48]from by decide+kernel,show lE 1 1=[121,48]from by decide+kernel];rfl
theorem uD:eL (fu awP 1)=xo:=by rw[rb];decide+kernel
theorem DQ:pH (fu awP 1)=0:=by rw[rb];decide+kernel
theorem CR:iF (fu awP 1):=by
 rw[rb];have:∀ l:List ST,aK l<100→(∀s∈l,wX s≤1000)→iF l:=by
  intro l;have key:∀ (n:Nat) (s:ST),wX s<n→wX s≤1000→qp s:=by
   intro n
   induction n with
   | zero=>intro s h;omega
   | succ n ih=>
     intro s h h1;obtain⟨b,w,l⟩:=s;rw[bt]at h h1;rw[qp];have h2:=cj l;have h3:=sx l;refine⟨by omega,by omega,?_⟩;have h4:∀ x∈l,qp x:=fun x hx=>ih x (by have:=(aO hx).1;omega) (by have:=(aO hx).1;omega);clear h h1 h2 h3
     induction l with
     | nil=>rw[iF];trivial
     | cons x r ihr=>rw[iF];exact⟨h4 x (by simp),ihr fun y hy=>h4 y (by simp[hy])⟩
  intro _ h2
  induction l with
  | nil=>rw[iF];trivial
  | cons x r ihr=>
    rw[iF];refine⟨key _ x (Nat.lt_succ_self _) (h2 x (by simp)),ihr ?_ fun y hy=>h2 y (by simp[hy])⟩;rename_i h3;rw[aj]at h3;omega
 refine this _ (by decide+kernel) fun s hs=>?_;simp only[List.mem_cons,List.not_mem_nil,or_false]at hs;rcases hs with rfl | rfl<;>decide+kernel
theorem ya:dG awP.bad:=by unfold awP;dsimp only;rw[dG,mB];exact⟨by simp,trivial⟩
theorem aw_bd:lJ 8 awP:=⟨fun s hs=>by obtain rfl:=List.mem_singleton.1 hs;exact⟨⟨by decide,by decide⟩,⟨by decide,by decide⟩⟩,by decide⟩
theorem aw_print:FnK Tryz.prog 41 Tab [.g (fi awP),.d (.v (.int .i64 1)),.d (.v (.int .i64 1))] [.d (.v (.string (tx xo))),.d (.v (.int .i64 0))]:=by
 have h:=xM awP 1 1 ⟨fun s hs=>⟨(aw_bd.1 s hs).1.mono (by decide),(aw_bd.1 s hs).2.mono (by decide)⟩,aw_bd.2⟩ ⟨by decide,fun a ha=>by obtain rfl:=List.mem_singleton.1 ha;decide⟩ ya fun _=>⟨by decide,by decide+kernel,by decide+kernel,fun a ha=>by
  obtain rfl:=List.mem_singleton.1 ha;refine⟨by unfold je;decide,by decide+kernel,by decide+kernel,fun t ht=>?_⟩;rcases List.mem_cons.1 ht with rfl | ht
  ·decide
  ·rw[List.mem_singleton.1 ht];decide,CR,by rw[uD];decide⟩
 unfold zE at h;rw[if_neg (by rw[ud];decide),if_neg (by rw[DQ,uD];decide),uD]at h;exact h
theorem Bi:Fn Tryz.prog 35 [.g (fi awP),.d (.l ([((1:Int):Rat)].map aN)),.d (.l ([((3:Int):Rat)].map aN))] [.d (.v (.bool true)),.d (.v (.int .i64 0))]:=by
 have h:=Ey (k:=8) (n:=2) awP [((1:Int):Rat)] [((3:Int):Rat)] aw_bd (by decide) (by decide) ⟨by decide,fun a ha=>by obtain rfl:=List.mem_singleton.1 ha;decide⟩ ya (fun q hq=>by rw[List.mem_singleton.1 hq];exact⟨by decide,by decide⟩) (fun q hq=>by rw[List.mem_singleton.1 hq];exact⟨by decide,by decide⟩) (by decide) (fun a ha=>by
  obtain rfl:=List.mem_singleton.1 ha;refine⟨⟨by decide,by decide⟩,fun t ht=>?_,by decide⟩;rcases List.mem_cons.1 ht with rfl | ht
  ·exact⟨by decide,by decide⟩
  ·rw[List.mem_singleton.1 ht];exact⟨by decide,by decide⟩) (by decide) ud
 have e:(iy awP.bad (fX awP.ats ([((1:Int):Rat)]++[((3:Int):Rat)]))&&kb awP.box [((1:Int):Rat)])=true:=by decide+kernel
 rw[e]at h;exact h
theorem A7{Kw:World→Prop}[KSt Kw][hT:KHas Kw Tab][KHas Kw ig]:FnK Tryz.prog 30 Kw [] [.d (.v (.bool true))]:=by
 have h1:=rM (Kw:=Kw) awTx 1 1 Bg;rw[CB]at h1;have h2:=Bi;have h3:=aw_print.to hT.1;have i1:=nU 1 (by decide) (by decide);have i3:=nU 3 (by decide) (by decide);refine FnK.of Tryz.func30 rfl (by kernel_rfl) Tryz.ntmps30 Tryz.results30 rfl fun w0 S0 hK0=>?_;refine wk ?_;refine c1 h1 ?_;refine wk ?_;refine c1 i1 ?_;refine wk ?_;refine c1 i3 ?_;refine wk ?_;refine c1 h2 ?_;refine wk ?_;refine c1 h3 ?_;refine wk ?_;((try (first | intro K ms hms hK | intro K hK));(first | apply Ch.go | apply Ch.ah);exact rfl;exact rfl;exact Loc.fz (t:=tx xo) (r:=true) rfl rfl rfl (E1 (decide_eq_true rfl)));refine wk ?_;exact⟨.d rfl (.inl rfl),trivial⟩
end Go.Proofs.YthdkkpocihkgbaaGreatDoor
namespace Go.Proofs.YthdkkpocihkgbaaGreatDoor
open Go.RowKit
attribute [local irreducible] AC Do St
theorem Bs{f:FT}(h:cN f≤20002):ki f=f:=by unfold ki;rw[mn f 20002 h]
theorem BI{f:FT}{n:Int}(h:dD f n=0):cN f≤20000:=by
 rcases Int.lt_or_le 20000 (cN f)with h1 | h1
 ·have:=oK f 0 1 (by decide) (.inr (by omega));unfold dD at h;rw[if_pos this]at h;cases h
 ·exact h1
end Go.Proofs.YthdkkpocihkgbaaGreatDoor
namespace Go.Proofs.YthdkkpocihkgbaaGreatDoor
open Go.RowKit
theorem A2(i:Int):∀ (m:Nat) (s:ST),wX s<m→∀ n,∀a∈(aE i s n).2.1,Form a.e.t∧(∀v,bz (ar a.e.t v)≤4*wX s+cX s)∧bz a.e.c≤4*wX s+cX s:=by
 intro m
 induction m with
 | zero=>intro s h;omega
 | succ m ih=>
 intro s hs n a ha;obtain⟨b,w,l⟩:=s;rw[bt]at hs;cases b with
 | true=>
   rw[mI]at ha;split at ha
   ·cases ha
   ·split at ha<;>cases ha
 | false=>
   cases l with
   | nil=>rw[mA]at ha;cases ha
   | cons h t=>
     rw[ll]at ha;split at ha
     ·split at ha
      ·have key:∀ (r:List ST),(∀x∈r,x∈t)→∀ n,∀a∈(az i r n).2.1,Form a.e.t∧(∀v,bz (ar a.e.t v)≤4*wX (.mk false w (h::t))+cX (.mk false w (h::t)))∧bz a.e.c≤4*wX (.mk false w (h::t))+cX (.mk false w (h::t)):=by
        intro r
        induction r with
        | nil=>intro _ n a ha;rw[bK]at ha;cases ha
        | cons x r ihr=>
          intro hx n a ha;rw[eh]at ha;rcases List.mem_append.1 ha with ha | ha
          ·have hx':=aO (List.mem_cons_of_mem h (hx x (by simp)));obtain⟨q1,q2,q3⟩:=ih x (by omega) n a ha;rw[bt,aY];exact⟨q1,fun v=>by have:=q2 v;omega,by omega⟩
          ·exact ihr (fun y hy=>hx y (by simp[hy])) _ a ha
       exact key t (fun _ h=>h) n a ha
      ·match t,ha with
       | [],ha=>cases ha
       | [_],ha=>cases ha
       | [x,y],ha=>
         cases hc:dY i h.w [x,y]with
         | none=>rw[hc]at ha;cases ha
         | some c=>
           rw[hc]at ha;obtain rfl:=List.mem_singleton.1 ha;obtain⟨_,_,_,h4⟩:=vV hc;obtain⟨p1,p2⟩:=mN i _ x (Nat.lt_succ_self _);obtain⟨q1,q2⟩:=mN i _ y (Nat.lt_succ_self _);have hk:4*wX x+cX x+(4*wX y+cX y)≤4*wX (.mk false w [h,x,y])+cX (.mk false w [h,x,y]):=by
            rw[bt,aY,aj,aj,aj,aA,aA,aA];omega
           have key:∀ A B:Ex,(∀v,bz (ar A.t v)+1+bz (ar B.t v)≤4*wX (.mk false w [h,x,y])+cX (.mk false w [h,x,y]))→bz A.c+1+bz B.c≤4*wX (.mk false w [h,x,y])+cX (.mk false w [h,x,y])→Form (cH A B).t∧(∀v,bz (ar (cH A B).t v)≤4*wX (.mk false w [h,x,y])+cX (.mk false w [h,x,y]))∧bz (cH A B).c≤4*wX (.mk false w [h,x,y])+cX (.mk false w [h,x,y]):=fun A B g1 g2=>by
            refine⟨(eg _).1,fun v=>?_,?_⟩
            ·rw[jT,Rat.sub_eq_add_neg];have e:=gQ (ar A.t v) (-(ar B.t v));rw[fC]at e;have:=g1 v;omega
            ·rw[nF,Rat.sub_eq_add_neg];have e:=gQ A.c (-B.c);rw[fC]at e;omega
           rcases h4 with h4 | h4
           ·rw[h4];exact key _ _ (fun v=>by have:=p1 v;have:=q1 v;omega) (by omega)
           ·rw[h4];exact key _ _ (fun v=>by have:=p1 v;have:=q1 v;omega) (by omega)
       | _::_::_::_,ha=>cases ha
     ·cases ha
theorem ng{i:Int}{l:List ST}{p:PP}(h:dv i l=some p):∃ wa ul t wb vl f,l=[ST.mk false wa (.mk true [98,111,120] ul::t),.mk false wb [.mk true [98,97,100] vl,f]]∧t.all gJ=true∧dS t=true∧(aE i f 0).2.2=true∧p=⟨t.map fun x=>(bZ x).1,(aE i f 0).2.1,(aE i f 0).1⟩:=by
 have hd:∀ (a:ST) (w:List UInt8),w≠[]→(aG a).1=w→∃ wa ul t,a=ST.mk false wa (.mk true w ul::t)∧(aG a).2=t:=fun a w hw e=>by
  obtain⟨b,wa,la⟩:=a;cases b with
  | true=>exact absurd e.symm hw
  | false=>
    cases la with
    | nil=>exact absurd e.symm hw
    | cons c t=>
      obtain⟨bc,cw,cl⟩:=c;cases bc with
      | false=>exact absurd e.symm hw
      | true=>
        obtain rfl:cw=w:=e;exact⟨wa,cl,t,rfl,rfl⟩
 unfold dv at h;split at h
 ·rename_i a c;split at h
  ·rename_i h1;obtain⟨h1,h2,h3⟩:=h1;obtain⟨wa,ul,t,rfl,e1⟩:=hd a _ (by simp) h1;obtain⟨wb,vl,t2,rfl,e2⟩:=hd c _ (by simp) h2;rw[e1]at h h3;rw[e2]at h;split at h
   ·rename_i f;split at h
    ·rename_i h4;rw[Bool.and_eq_true]at h4;cases h;exact⟨wa,ul,t,wb,vl,f,rfl,h3,h4.1,h4.2,rfl⟩
    ·cases h
   ·cases h
  ·cases h
 ·cases h
theorem x6{x:ST}(h:gM x):iE x=(gJ x&&(bZ x).2)∧(iE x=true→((nH x).1.1,(nH x).2.1)=(bZ x).1):=by
 obtain⟨b,w,l⟩:=x;rw[fA]at h;unfold iE gJ nH bZ
 match l,h with
 | [],_=>exact⟨by simp[ST.l],fun h=>by simp[ST.l]at h⟩
 | [_],_=>exact⟨by simp[ST.l],fun h=>by simp[ST.l]at h⟩
 | [a,c],h=>
   have ha:=uz (bQ h.2.2 a (by simp));have hc:=uz (bQ h.2.2 c (by simp));dsimp only[ST.l];rw[ha,hc];exact⟨by rw[Bool.and_assoc],fun _=>rfl⟩
 | _::_::_::_,_=>exact⟨by simp[ST.l],fun h=>by simp[ST.l]at h⟩
theorem vJ{t:List ST}(h:∀ x∈t,gM x):t.all iE=(t.all gJ&&dS t):=by
 unfold dS
 induction t with
 | nil=>rfl
 | cons x r ih=>
   rw[List.all_cons,List.all_cons,List.all_cons,ih fun y hy=>h y (by simp[hy]),(x6 (h x (by simp))).1];cases gJ x<;>cases (bZ x).2<;>simp
theorem rO(q:Rat):cL (q-q)=0:=by
 rw[show q-q=0 from by grind];rfl
theorem zS{t:List ST}(h:∀ x∈t,gM x)(ho:t.all iE=true):sY t (t.map fun x=>(bZ x).1) true=true:=by
 induction t with
 | nil=>rfl
 | cons x r ih=>
   rw[List.all_cons,Bool.and_eq_true]at ho;have h1:=(x6 (h x (by simp))).2 ho.1;rw[List.map_cons,sY,List.headD_cons,List.tail_cons,←h1];dsimp only;rw[rO,rO];exact ih (fun y hy=>h y (by simp[hy])) ho.2
theorem yA{i:Int}{l:List ST}(hn:fY l)(h:dv i l=none):c9 i zeroPP l= -1:=by
 unfold c9;split
 ·rename_i wa u ul t wb v vl f;split
  ·rename_i huv;obtain⟨rfl,rfl⟩:=huv;have hn1:=bQ hn _ (List.mem_cons_self ..);have hn2:=bQ hn (.mk false wb [.mk true [98,97,100] vl,f]) (by simp);rw[fA]at hn1 hn2;have hnt:∀ x∈t,gM x:=fun x hx=>bQ hn1.2.2 x (by simp[hx]);unfold mZ;split
   ·rename_i ho;have hall:=vJ hnt;rw[ho,Eq.comm,Bool.and_eq_true]at hall;have hf:(aE i f 0).2.2=false:=by
     cases hf:(aE i f 0).2.2 with
     | false=>rfl
     | true=>
       have:dv i [ST.mk false wa (.mk true [98,111,120] ul::t),.mk false wb [.mk true [98,97,100] vl,f]]=some ⟨t.map fun x=>(bZ x).1,(aE i f 0).2.1,(aE i f 0).1⟩:=by
        unfold dv;refine(if_pos (show _∧_∧_ from⟨rfl,rfl,hall.1⟩)).trans ?_;exact if_pos (show (dS t&&(aE i f 0).2.2)=true by rw[hall.2,hf];rfl)
       rw[this]at h;cases h
    rw[if_pos (show cK i zeroPP.ats f zeroPP.bad 0= -1 from by
     rw[show cK i zeroPP.ats f zeroPP.bad 0=cK i [] f (.mk 0 0 []) 0 from rfl,xz i _ f (Nat.lt_succ_self _) (bQ hn2.2.2 f (by simp)) 0 0,hf];rfl)]
   ·rfl
  ·rfl
 ·rfl
theorem yi{i:Int}{l:List ST}{p:PP}(hn:fY l)(h:dv i l=some p):c9 i p l=1∧∃ e:Int,c9 i zeroPP l=e∧e≠ -1:=by
 obtain⟨wa,ul,t,wb,vl,f,rfl,h1,h2,h3,rfl⟩:=ng h;have hn1:=bQ hn _ (List.mem_cons_self ..);have hn2:=bQ hn (.mk false wb [.mk true [98,97,100] vl,f]) (by simp);rw[fA]at hn1 hn2;have hnt:∀ x∈t,gM x:=fun x hx=>bQ hn1.2.2 x (by simp[hx]);have hnf:=bQ hn2.2.2 f (by simp);have ho:t.all iE=true:=by rw[vJ hnt,h1,h2];rfl
 constructor
 ·show (if [98,111,120]=[98,111,120]∧[98,97,100]=[98,97,100]then mZ i _ t f else-1)=1;rw[if_pos ⟨rfl,rfl⟩];unfold mZ;have hy:=vU i _ f (Nat.lt_succ_self _) hnf [] [] h3;rw[List.nil_append,List.append_nil]at hy;have hy:cK i (aE i f 0).2.1 f (aE i f 0).1 0=((aE i f 0).2.1.length:Int):=by
   refine Eq.trans ?_ (hy.trans ?_)
   ·rfl
   ·show (((0+(aE i f 0).2.1.length:Nat)):Int)=_;omega
  dsimp only;rw[if_pos ho,hy,if_neg (by omega),List.length_map,decide_eq_true rfl,if_pos ⟨zS hnt ho,rfl⟩]
 ·refine⟨_,rfl,?_⟩;show (if [98,111,120]=[98,111,120]∧[98,97,100]=[98,97,100]then mZ i zeroPP t f else-1)≠ -1;rw[if_pos ⟨rfl,rfl⟩];unfold mZ;rw[show cK i zeroPP.ats f zeroPP.bad 0=cK i [] f (.mk 0 0 []) 0 from rfl,xz i _ f (Nat.lt_succ_self _) hnf 0 0,h3,if_pos ho,if_pos rfl,if_neg (by decide)];split<;>decide
theorem Bl{src:List UInt8}(hs:src.length≤3000){l:List ST}{r:List UInt8}{m:Int}(hp:ay (src.length+1) 0 src 0= .ok l r m){i:Int}{p:PP}(h:dv i l=some p):lJ 10000000 p∧(∀a∈p.ats,lnE 10000000 a.e∧Bd 10000000 a.e.c∧(∀t∈a.e.t,Bd 10000000 t.2)∧a.e.t.length≤1000000)∧p.ats.length≤1000000∧dG p.bad:=by
 have hb:=pj hs hp;have hnf:=jU _ _ _ _ hp;obtain⟨wa,ul,t,wb,vl,f,rfl,h1,h2,h3,rfl⟩:=ng h;rw[aA,aj,aA,aj,cT,bd,bt,aY,bt,aY,aA,aj,aA,aj,aA,aj,cT,bd]at hb;have hn2:=bQ hnf (.mk false wb [.mk true [98,97,100] vl,f]) (by simp);rw[fA]at hn2;have hnf:=bQ hn2.2.2 f (by simp);refine⟨⟨fun s hs=>?_,?_⟩,fun a ha=>?_,?_,vB i _ f (Nat.lt_succ_self _) (by omega) 0⟩
 ·obtain⟨x,hx,rfl⟩:=List.mem_map.1 hs;have hxw:=aO hx;have key:∀ w:List UInt8,w.length≤6001→Bd 10000000 ((aX w).getD 0):=fun w hw=>(bw _).mono (by have:=dO w;omega);have hz:Bd 10000000 0:=(bw 0).mono (by rw[dX];omega);unfold bZ;split
  ·rename_i a c e;obtain⟨xb,xw,xl⟩:=x;obtain rfl:xl=[a,c]:=e;have:=jB a;have:=jB c;rw[bt,aA,aA]at hxw;exact⟨key _ (by omega),key _ (by omega)⟩
  ·exact⟨hz,hz⟩
 ·show (t.map _).length≤_;rw[List.length_map];have:=cj t;omega
 ·obtain⟨e1,e2,e3⟩:=A2 i _ f (Nat.lt_succ_self _) 0 a ha;obtain⟨f1,f2,f3⟩:=xQ i _ f (Nat.lt_succ_self _) 0 a ha;have hk:=tG (s:=f) (by omega);refine⟨⟨fun v=>by have:=e2 v;omega,by omega,by omega,by omega⟩,(bw _).mono (by omega),fun t ht=>?_,by omega⟩;rw[←nK e1 ht];exact(bw _).mono (by have:=e2 t.1;omega)
 ·have hy:=vU i _ f (Nat.lt_succ_self _) hnf [] [] h3;have hr:=ju i (([]:List At)++(aE i f ([]:List At).length).2.1++([]:List At)) _ f (Nat.lt_succ_self _) (aE i f ([]:List At).length).1 (([]:List At).length:Int) (by simp);rw[hy]at hr;dsimp only at hr ⊢;simp only[List.length_nil]at hr;omega
attribute [local irreducible] AC Do St
theorem Cp:Fn Tryz.prog 43 [.g (fi zeroPP)] [.d (.v (.bool true))]:=by
 rw[show fi zeroPP=[.l [],.l [],.v (.int .i64 0),.v (.int .i64 0),.l []]from rfl];have h0:([]:List (List D)).length=0:=rfl;refine Fn.of Tryz.func43 rfl (by kernel_rfl) Tryz.ntmps43 Tryz.results43 rfl fun w0 S0=>?_;refine wa ?_;exact⟨.d rfl (.inl rfl),trivial⟩
theorem zu(p:PP)(i o:Int):gj p i o=0∨gj p i o=2∨gj p i o=4:=by
 unfold gj dJ;split
 ·exact .inr (.inl rfl)
 ·split
  ·exact .inr (.inr rfl)
  ·split
   ·split
    ·exact .inl rfl
    ·exact .inr (.inr rfl)
   ·exact .inr (.inr rfl)
inductive PaC (src:List UInt8) (i o:Int):Prop
 | bad (e a:Int) (he:e≠0) (hf:mQ src=(a,e)) (hp:jN src i o=j9 e)
 | none (l:List ST) (a:Int) (hf:mQ src=(a,0)) (hn:fY l) (hc:aK l+bI l≤6001) (hx:pn src=[.d (.l (l.map aq)),.d (.v (.int .i64 0)),.d (.v (.int .i64 0))]) (hp:jN src i o=j9 5) (hs:c9 i zeroPP l= -1)
 | no (l:List ST) (a e s:Int) (hf:mQ src=(a,0)) (hn:fY l) (hc:aK l+bI l≤6001) (hx:pn src=[.d (.l (l.map aq)),.d (.v (.int .i64 0)),.d (.v (.int .i64 0))]) (hp:jN src i o=j9 e) (he:e=2∨e=4) (hs:c9 i zeroPP l=s) (hs1:s≠ -1)
 | ok (l:List ST) (a:Int) (p:PP) (hf:mQ src=(a,0)) (hn:fY l) (hc:aK l+bI l≤6001) (hx:pn src=[.d (.l (l.map aq)),.d (.v (.int .i64 0)),.d (.v (.int .i64 0))]) (hp:jN src i o=[.g (fi p),.d (.v (.int .i64 0))]) (h0:gj p i o=0) (hb:lJ 10000000 p) (hat:∀ a∈p.ats,lnE 10000000 a.e∧Bd 10000000 a.e.c∧(∀t∈a.e.t,Bd 10000000 t.2)∧a.e.t.length≤1000000) (hal:p.ats.length≤1000000) (hok:dG p.bad) (hs:c9 i p l=1)
theorem FS{src:List UInt8}(h:src.length≤3000)(i o:Int):PaC src i o:=by
 have hfp:=jM (src.length+1) 0 src 0 (src.length+1) 0 (by omega) (by omega);have hfa:mQ src=ja (ct (src.length+1) src 0) 0 0:=if_neg (by omega);have hpr:jN src i o=match ay (src.length+1) 0 src 0 with
  | .bad e _=>j9 e
  | .ok l _ _=>uN i o (dv i l):=if_neg (by omega)
 have hpx:pn src=match ay (src.length+1) 0 src 0 with
  | .ok out _ _=>[.d (.l (out.map aq)),.d (.v (.int .i64 0)),.d (.v (.int .i64 0))]
  | .bad e left=>[.d (.l []),.d (.v (.int .i64 ((src.length-left:Nat):Int))),.d (.v (.int .i64 e))]:=if_neg (by omega)
 cases hX:ay (src.length+1) 0 src 0 with
 | bad e left=>
   rw[hX]at hfp hpr;exact .bad e (ja (ct (src.length+1) src 0) 0 0).1 hfp.2 (by rw[hfa,←hfp.1]) hpr
 | ok l r m=>
   rw[hX]at hfp hpr hpx;rw[mb,if_pos rfl]at hfp;have hf:mQ src=((ja (ct (src.length+1) src 0) 0 0).1,0):=hfa.trans (Prod.ext rfl hfp);have hc:=pj h hX;have hn:=jU _ _ _ _ hX;have hpr:jN src i o=uN i o (dv i l):=hpr;cases hl:dv i l with
   | none=>
     rw[hl]at hpr;exact .none l _ hf hn hc hpx hpr (yA hn hl)
   | some p=>
     rw[hl]at hpr;obtain⟨s1,s,s2,s3⟩:=yi hn hl;by_cases h0:gj p i o=0
     ·obtain⟨b1,b2,b3,b4⟩:=Bl h hX hl;exact .ok l _ p hf hn hc hpx (hpr.trans (if_pos h0)) h0 b1 b2 b3 b4 s1
     ·exact .no l _ (gj p i o) s hf hn hc hpx (hpr.trans (if_neg h0)) (by have:=zu p i o;omega) s2 s3
theorem qX(i:Int)(p:PP){l:List ST}(hn:fY l)(hc:aK l+bI l≤6001)(hb:lJ 10000000 p)(hat:∀ a∈p.ats,lnE 10000000 a.e):Fn Tryz.prog 46 [.d (.l (l.map aq)),.d (.v (.int .i64 i)),.g (dN p)] [.d (.v (.int .i64 (c9 i p l)))]:=by
 refine Ct i p l (Nat.le_refl _) hb.1 (fun x hx=>nm _ x (Nat.lt_succ_self _) (by have:=(aO hx).1;omega)) (fun x hx=>?_) fun c hcl f hf=>?_
 ·have h1:=(aO hx).2;obtain⟨b,w,t⟩:=x;rw[aY]at h1;have:=cj t;show t.length≤_;omega
 ·have h1:=aO hcl;have hnc:=bQ hn c hcl;obtain⟨b,w,t⟩:=c;rw[aY,bt]at h1;have h2:=aO (show f∈t from hf);rw[fA]at hnc;exact yP i p hat _ f (Nat.lt_succ_self _) (bQ hnc.2.2 f hf) (nm _ f (Nat.lt_succ_self _) (by omega)) (by omega) p.bad 0 (by omega)
theorem vf{Kw:World→Prop}[KSt Kw][hT:KHas Kw Tab][KHas Kw ig](src:List UInt8)(i o:Int)(hi: -9223372036854775808≤i∧i≤9223372036854775807):FnK Tryz.prog 11 Kw [.d (.v (.string (tx src))),.d (.v (.int .i64 i)),.d (.v (.int .i64 o))] [.d (.v (.bool true))]:=by
 have hw:=A7 (Kw:=Kw);by_cases hl:3000<src.length
 ·refine FnK.of Tryz.func11 rfl (by kernel_rfl) Tryz.ntmps11 Tryz.results11 rfl fun w0 S0 hK0=>?_;refine wa ?_;exact⟨.d rfl (.inl rfl),trivial⟩
 have hl':src.length≤3000:=by omega
 have hpp:=rM (Kw:=Kw) src i o (wV hl');have hfa:=BR src (by omega);have hse:=r8 src;have hz:=Cp;have hC:=FS hl' i o;cases hC with
 | bad e a he hf hp=>
   rw[hf]at hfa;rw[hp]at hpp;unfold j9 at hpp;dsimp only at hfa;clear hse hp hf;refine FnK.of Tryz.func11 rfl (by kernel_rfl) Tryz.ntmps11 Tryz.results11 rfl fun w0 S0 hK0=>?_;refine wa ?_;exact⟨.d rfl (.inl rfl),trivial⟩
 | none l a hf hn hc hx hp hs=>
   rw[hf]at hfa;rw[hp]at hpp;rw[hx]at hse;unfold j9 at hpp;dsimp only at hfa;have hto:=qV l hn (by omega);have hsa:=qX i zeroPP hn hc ⟨(fun s h=>nomatch h),by decide⟩ (fun a h=>nomatch h);rw[hs]at hsa;clear hp hf hx hn hc hs;rw[show dN zeroPP=[.l [],.l [],.v (.int .i64 0),.v (.int .i64 0),.l []]from rfl]at hsa;refine FnK.of Tryz.func11 rfl (by kernel_rfl) Tryz.ntmps11 Tryz.results11 rfl fun w0 S0 hK0=>?_;refine wa ?_;exact⟨.d rfl (.inl rfl),trivial⟩
 | no l a e s hf hn hc hx hp he hs hs1=>
   rw[hf]at hfa;rw[hp]at hpp;rw[hx]at hse;unfold j9 at hpp;dsimp only at hfa;have hto:=qV l hn (by omega);have hsa:=qX i zeroPP hn hc ⟨(fun s h=>nomatch h),by decide⟩ (fun a h=>nomatch h);rw[hs]at hsa;clear hp hf hx hn hc hs;rw[show dN zeroPP=[.l [],.l [],.v (.int .i64 0),.v (.int .i64 0),.l []]from rfl]at hsa;rcases he with rfl | rfl
   all_goals
    refine FnK.of Tryz.func11 rfl (by kernel_rfl) Tryz.ntmps11 Tryz.results11 rfl fun w0 S0 hK0=>?_;refine wa ?_;exact⟨.d rfl (.inl rfl),trivial⟩
 | ok l a p hf hn hc hx hp h0 hb hat hal hok hs=>
   rw[hf]at hfa;rw[hp]at hpp;rw[hx]at hse;dsimp only at hfa;have hcut:wN p=p:=by
    have h1:=h0;unfold gj dJ at h1;have hc0:dD p.bad p.ats.length=0:=by
     split at h1
     ·cases h1
     ·split at h1
      ·cases h1
      ·omega
    have:=Bs (f:=p.bad) (by have:=BI hc0;omega);unfold wN;rw[this]
   have htd:=B8 p (Nat.le_refl _) hb (fun a ha=>(hat a ha).2) hal hok;have hck:=Bq p i o hb (by decide) ⟨by omega,fun a ha=>by have:=(hat a ha).2.2.2;omega⟩ hok hi;have hce:dJ (jO p.bad p.ats.length) p.box p.ats i o=0:=by
    rw[show p.bad=ki p.bad from(congrArg PP.bad hcut).symm,zW];exact h0
   rw[hce]at hck;rw[hcut]at htd;have hto:=qV l hn (by omega);have hsa:=qX i p hn hc hb fun a ha=>(hat a ha).1;rw[hs]at hsa;clear hp hf hx hn hc hs hce hcut hat hal hok h0 hb hz;obtain⟨bx,ats,bad⟩:=p;refine FnK.of Tryz.func11 rfl (by kernel_rfl) Tryz.ntmps11 Tryz.results11 rfl fun w0 S0 hK0=>?_;refine wa ?_;exact⟨.d rfl (.inl rfl),trivial⟩
theorem vd{Kw:World→Prop}[KSt Kw][hT:KHas Kw Tab][KHas Kw ig](s:ByteArray)(i o:Int)(hi: -9223372036854775808≤i∧i≤9223372036854775807):FnK Tryz.prog 11 Kw [.d (.v (.string s)),.d (.v (.int .i64 i)),.d (.v (.int .i64 o))] [.d (.v (.bool true))]:=by
 rw[show s=tx s.data.toList from rfl];exact vf s.data.toList i o hi
