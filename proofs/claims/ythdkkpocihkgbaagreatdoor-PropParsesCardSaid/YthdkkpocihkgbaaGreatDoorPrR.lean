import Derived.Test.YthdkkpocihkgbaaGreatDoorPrH
namespace Go.Proofs.YthdkkpocihkgbaaGreatDoor
open Go.RowKit
attribute [local irreducible] AC Do St
mutual
def gM:ST→Prop
 | .mk b w l=>(b=true→l=[])∧(b=false→w=[])∧fY l
def fY:List ST→Prop
 | []=>True
 | s::r=>gM s∧fY r
end
theorem fA(b:Bool)(w:List UInt8)(l:List ST):gM (.mk b w l)=((b=true→l=[])∧(b=false→w=[])∧fY l):=by rw[gM]
theorem bQ:∀ {l:List ST},fY l→∀ s∈l,gM s
 | [],_,s,h=>nomatch h
 | x::r,h,s,hs=>by
   rw[fY]at h;rcases List.mem_cons.1 hs with rfl | hs
   ·exact h.1
   ·exact bQ h.2 s hs
end Go.Proofs.YthdkkpocihkgbaaGreatDoor
namespace Go.Proofs.YthdkkpocihkgbaaGreatDoor
open Go.RowKit
attribute [local irreducible] AC Do St
def cd(s:ST):Rat×Bool:=if s.b=true then((aX s.w).getD 0,(aX s.w).isSome)else(0,false)
mutual
def aP(i:Int):ST→Rat→Ex→Ex×Bool
 | .mk true w _,k,e=>if (ey i w).2=true then(⟨e.t++[((ey i w).1,k)],e.c⟩,true)else(⟨e.t,e.c+k*(aX w).getD 0⟩,(aX w).isSome)
 | .mk false _ [],_,e=>(e,false)
 | .mk false _ (h::t),k,e=>if h.b=true then
    if h.w=[43]then fW i t k e true
    else if h.w=[45]then iP i t k e
    else if h.w=[42]then iQ i t k e
    else(e,false)
   else(e,false)
def fW(i:Int):List ST→Rat→Ex→Bool→Ex×Bool
 | [],_,e,ok=>(e,ok)
 | s::r,k,e,ok=>fW i r k (aP i s k e).1 (ok&&(aP i s k e).2)
def iP(i:Int):List ST→Rat→Ex→Ex×Bool
 | [],_,e=>(e,false)
 | [x],k,e=>aP i x (-k) e
 | [x,y],k,e=>((aP i y (-k) (aP i x k e).1).1,(aP i x k e).2&&(aP i y (-k) (aP i x k e).1).2)
 | _::_::_::_,_,e=>(e,false)
def iQ(i:Int):List ST→Rat→Ex→Ex×Bool
 | [],_,e=>(e,false)
 | [_],_,e=>(e,false)
 | [n,y],k,e=>((aP i y (k*(cd n).1) e).1,(cd n).2&&(aP i y (k*(cd n).1) e).2)
 | _::_::_::_,_,e=>(e,false)
end
theorem pT(i:Int)(w:List UInt8)(l:List ST)(k:Rat)(e:Ex):aP i (.mk true w l) k e=if (ey i w).2=true then(⟨e.t++[((ey i w).1,k)],e.c⟩,true)else(⟨e.t,e.c+k*(aX w).getD 0⟩,(aX w).isSome):=by rw[aP]
theorem sM(i:Int)(w:List UInt8)(k:Rat)(e:Ex):aP i (.mk false w []) k e=(e,false):=by rw[aP]
theorem sK(i:Int)(w:List UInt8)(h:ST)(t:List ST)(k:Rat)(e:Ex):aP i (.mk false w (h::t)) k e=if h.b=true then(if h.w=[43]then fW i t k e true else if h.w=[45]then iP i t k e else if h.w=[42]then iQ i t k e else(e,false))else(e,false):=by rw[aP]
def yX(s:ST)(b:Nat):Nat:=cX s*(b+4*wX s+8)
def moreB(e e':Ex)(n k:Nat):Prop:=tb e'.t≤tb e.t+k∧e'.t.length≤e.t.length+n∧bz e'.c≤bz e.c+k
theorem moreB.mono{e e':Ex}{n k n' k':Nat}(h:moreB e e' n k)(hn:n≤n')(hk:k≤k'):moreB e e' n' k':=⟨by have:=h.1;omega,by have:=h.2.1;omega,by have:=h.2.2;omega⟩
theorem moreB.refl(e:Ex)(n k:Nat):moreB e e n k:=⟨by omega,by omega,by omega⟩
theorem moreB.tr{a b c:Ex}{n k m j:Nat}(h:moreB a b n k)(g:moreB b c m j):moreB a c (n+m) (k+j):=⟨by have:=h.1;have:=g.1;omega,by have:=h.2.1;have:=g.2.1;omega,by have:=h.2.2;have:=g.2.2;omega⟩
theorem nE(i:Int):∀ (n:Nat) (s:ST),wX s<n→∀ (k:Rat) (e:Ex),moreB e (aP i s k e).1 (cX s) (yX s (bz k)):=by
 intro n
 induction n with
 | zero=>intro s h;omega
 | succ n ih=>
 intro s hs k e;obtain⟨b,w,l⟩:=s;rw[bt]at hs;have hY:yX (.mk b w l) (bz k)=(1+aK l)*(bz k+4*(w.length+1+bI l)+8):=by unfold yX;rw[aY,bt]
 have hY0:bz k+4*(w.length+1+bI l)+8≤yX (.mk b w l) (bz k):=by rw[hY];exact Nat.le_mul_of_pos_left _ (by omega)
 cases b with
 | true=>
   rw[pT];have hq:=dO w;split
   ·refine⟨?_,by rw[aY];simp,by dsimp only;omega⟩;rw[nP];simp only[tb];omega
   ·have h1:=gQ e.c (k*(aX w).getD 0);have h2:=dT k ((aX w).getD 0);exact⟨by dsimp only;omega,by dsimp only;omega,by dsimp only;omega⟩
 | false=>
 cases l with
 | nil=>rw[sM];exact .refl _ _ _
 | cons h t=>
 have ih':∀ x∈t,∀k e,moreB e (aP i x k e).1 (cX x) (yX x (bz k)):=fun x hx=>ih x (by have:=(aO (List.mem_cons_of_mem h hx)).1;omega);rw[aA,aj]at hY;have hwp:=jd h;rw[sK];have key:∀ (t:List ST),(∀x∈t,∀k e,moreB e (aP i x k e).1 (cX x) (yX x (bz k)))→∀ (e:Ex) (ok:Bool),moreB e (fW i t k e ok).1 (aK t) (aK t*(bz k+4*bI t+8)):=by
  intro t
  induction t with
  | nil=>intro _ e ok;rw[fW];exact .refl _ _ _
  | cons x r ihr=>
    intro hx e ok;rw[fW,aj,aA];refine((hx x (by simp) k e).tr (ihr (fun y hy=>hx y (by simp[hy])) _ _)).mono (Nat.le_refl _) ?_;rw[Nat.add_mul];exact Nat.add_le_add (Nat.mul_le_mul_left _ (by omega)) (Nat.mul_le_mul_left _ (by omega))
 split
 ·split
  ·refine(key t ih' e true).mono (by rw[aY,aj];omega) ?_;rw[hY];exact Nat.mul_le_mul (by omega) (by omega)
  ·split
   ·match t,ih',hY with
    | [],_,_=>rw[iP];exact .refl _ _ _
    | [x],ih',hY=>
      rw[iP];have:=ih' x (by simp) (-k) e;rw[fC]at this;refine this.mono (by rw[aY,aj,aj];omega) ?_;rw[hY,aj,aA];exact Nat.mul_le_mul (by omega) (by omega)
    | [x,y],ih',hY=>
      rw[iP];have h1:=ih' x (by simp) k e;have h2:=ih' y (by simp) (-k) (aP i x k e).1;rw[fC]at h2;refine(h1.tr h2).mono (by rw[aY,aj,aj,aj];omega) ?_;rw[hY,aj,aA,aj,aA];refine Nat.le_trans (Nat.add_le_add (Nat.mul_le_mul_left (cX x) (m:=bz k+4*(wX x+wX y)+8) (by omega)) (Nat.mul_le_mul_left (cX y) (m:=bz k+4*(wX x+wX y)+8) (by omega))) ?_;rw[←Nat.add_mul];exact Nat.mul_le_mul (by omega) (by omega)
    | _::_::_::_,_,_=>rw[iP];exact .refl _ _ _
   ·split
    ·match t,ih',hY with
     | [],_,_=>rw[iQ];exact .refl _ _ _
     | [x],_,_=>rw[iQ];exact .refl _ _ _
     | [x,y],ih',hY=>
       rw[iQ];have hx:=jB x;have hn:bz (cd x).1≤4*x.w.length+4:=by
        unfold cd;split
        ·exact dO x.w
        ·dsimp only;rw[dX];omega
       have h1:=dT k (cd x).1;refine(ih' y (by simp) (k*(cd x).1) e).mono (by rw[aY,aj,aj,aj];omega) ?_;rw[hY,aj,aA,aj,aA];exact Nat.mul_le_mul (by omega) (by omega)
     | _::_::_::_,_,_=>rw[iQ];exact .refl _ _ _
    ·exact .refl _ _ _
 ·exact .refl _ _ _
theorem yu(r:Rat)(l:List Tm)(v:Int):ar (l.map (fE r)) v=r*ar l v:=uO l r v
theorem n7(a b:Ex)(v:Int):ar (eK a b).t v=ar a.t v+ar b.t v:=by
 show ar (dU (a.t++b.t)) v=_;rw[(eg _).2.1,gy]
theorem iq(r:Rat)(e:Ex)(v:Int):ar (cy r e).t v=r*ar e.t v:=by
 show ar (dU (e.t.map (fE r))) v=_;rw[(eg _).2.1,yu]
theorem jT(a b:Ex)(v:Int):ar (cH a b).t v=ar a.t v-ar b.t v:=by
 unfold cH;rw[n7,iq];grind
theorem nF(a b:Ex):(cH a b).c=a.c-b.c:=by
 show a.c+(-1)*b.c=_;grind
def isSum(e:Ex)(k:Rat)(f e':Ex):Prop:=(∀v,ar e'.t v=ar e.t v+k*ar f.t v)∧e'.c=e.c+k*f.c
theorem isSum.zero(e:Ex)(k:Rat):isSum e k ⟨[],0⟩ e:=⟨fun v=>by simp only[ar];grind,by show e.c=e.c+k*0;grind⟩
theorem uz{n:ST}(h:gM n):cd n=aZ n:=by
 obtain⟨b,w,l⟩:=n;rw[fA]at h;unfold cd aZ;cases b with
 | true=>rfl
 | false=>
   obtain rfl:=h.2.1 rfl;rfl
theorem vo(s:Ex×Bool)(v:Ex×Bool)(vs:List (Ex×Bool)):(v::vs).foldl (fun s x=>(eK s.1 x.1,s.2&&x.2)) s=vs.foldl (fun s x=>(eK s.1 x.1,s.2&&x.2)) (eK s.1 v.1,s.2&&v.2):=rfl
theorem kt(i:Int):∀ (n:Nat) (s:ST),wX s<n→gM s→∀ (k:Rat) (e:Ex),isSum e k (ak i s).1 (aP i s k e).1∧(aP i s k e).2=(ak i s).2:=by
 intro n
 induction n with
 | zero=>intro s h;omega
 | succ n ih=>
 intro s hs hnf k e;obtain⟨b,w,l⟩:=s;rw[bt]at hs;rw[fA]at hnf;rw[jy];cases b with
 | true=>
   rw[pT,if_pos rfl];unfold lA;split
   ·exact⟨⟨fun v=>by simp only[gy,ar];grind,by show e.c=e.c+k*0;grind⟩,rfl⟩
   ·exact⟨⟨fun v=>by simp only[ar];grind,rfl⟩,rfl⟩
 | false=>
 rw[if_neg (by decide),jY];cases l with
 | nil=>rw[sM];exact⟨.zero _ _,rfl⟩
 | cons h t=>
 have hnt:∀ x∈t,gM x:=fun x hx=>bQ hnf.2.2 x (List.mem_cons_of_mem h hx);have ih':∀ x∈t,∀k e,isSum e k (ak i x).1 (aP i x k e).1∧(aP i x k e).2=(ak i x).2:=fun x hx=>ih x (by have:=(aO (List.mem_cons_of_mem h hx)).1;omega) (hnt x hx);rw[sK,List.map_cons,oM];have key:∀ (t:List ST),(∀x∈t,∀k e,isSum e k (ak i x).1 (aP i x k e).1∧(aP i x k e).2=(ak i x).2)→∀ (e f e':Ex) (ok:Bool),isSum e k f e'→isSum e k ((t.map (ak i)).foldl (fun s x=>(eK s.1 x.1,s.2&&x.2)) (f,ok)).1 (fW i t k e' ok).1∧(fW i t k e' ok).2=((t.map (ak i)).foldl (fun s x=>(eK s.1 x.1,s.2&&x.2)) (f,ok)).2:=by
  intro t
  induction t with
  | nil=>intro _ e f e' ok h;rw[fW];exact⟨h,rfl⟩
  | cons x r ihr=>
    intro hx e f e' ok h;obtain⟨⟨g1,g2⟩,g3⟩:=hx x (by simp) k e';rw[fW,List.map_cons,vo,g3];refine ihr (fun y hy=>hx y (by simp[hy])) e (eK f (ak i x).1) _ _ ⟨fun v=>?_,?_⟩
    ·rw[g1,h.1,n7];grind
    ·rw[g2,h.2];show _=e.c+k*(f.c+(ak i x).1.c);grind
 split
 ·unfold wC;split
  ·exact key t ih' e ⟨[],0⟩ e true (.zero _ _)
  ·split
   ·match t,ih' with
    | [],_=>rw[iP];exact⟨.zero _ _,rfl⟩
    | [x],ih'=>
      rw[iP];obtain⟨⟨g1,g2⟩,g3⟩:=ih' x (by simp) (-k) e;refine⟨⟨fun v=>?_,?_⟩,g3⟩
      ·rw[g1];show _=_+k*ar (cy (-1) (ak i x).1).t v;rw[iq];grind
      ·rw[g2];show _=e.c+k*((-1)*(ak i x).1.c);grind
    | [x,y],ih'=>
      rw[iP];obtain⟨⟨g1,g2⟩,g3⟩:=ih' x (by simp) k e;obtain⟨⟨q1,q2⟩,q3⟩:=ih' y (by simp) (-k) (aP i x k e).1;refine⟨⟨fun v=>?_,?_⟩,by dsimp only;rw[g3,q3];rfl⟩
      ·rw[q1,g1];show _=_+k*ar (cH (ak i x).1 (ak i y).1).t v;rw[jT];grind
      ·rw[q2,g2];show _=e.c+k*(cH (ak i x).1 (ak i y).1).c;rw[nF];grind
    | _::_::_::_,_=>rw[iP];exact⟨.zero _ _,rfl⟩
   ·split
    ·match t,ih',hnt with
     | [],_,_=>rw[iQ];exact⟨.zero _ _,rfl⟩
     | [x],_,_=>rw[iQ];exact⟨.zero _ _,rfl⟩
     | [x,y],ih',hnt=>
       rw[iQ,uz (hnt x (by simp))];obtain⟨⟨g1,g2⟩,g3⟩:=ih' y (by simp) (k*(aZ x).1) e;refine⟨⟨fun v=>?_,?_⟩,by dsimp only;rw[g3];rfl⟩
       ·rw[g1];show _=_+k*ar (cy (aZ x).1 (ak i y).1).t v;rw[iq];grind
       ·rw[g2];show _=e.c+k*((aZ x).1*(ak i y).1.c);grind
     | _::_::_::_,_,_=>rw[iQ];exact⟨.zero _ _,rfl⟩
    ·exact⟨.zero _ _,rfl⟩
 ·exact⟨.zero _ _,rfl⟩
end Go.Proofs.YthdkkpocihkgbaaGreatDoor
namespace Go.Proofs.YthdkkpocihkgbaaGreatDoor
open Go.RowKit
attribute [local irreducible] AC Do St
open Classical in
noncomputable def gW (a b:Ex):Bool:=decide ((∀v,ar a.t v=ar b.t v)∧a.c=b.c)
theorem rQ(a b:Ex):gW a b=true↔(∀v,ar a.t v=ar b.t v)∧a.c=b.c:=by
 classical
 unfold gW;constructor
 ·intro h;exact of_decide_eq_true h
 ·intro h;exact decide_eq_true h
open Classical in
noncomputable def j4 (ok:Bool)(p:Prop)(n:Int):Int:=if ok=true then(if p then n+1 else-2)else-1
theorem Dc{ok:Bool}{p:Prop}{n:Int}(h:¬ p):j4 ok p n=if ok=true then-2 else-1:=by unfold j4;rw[if_neg h]
theorem vH{p:Prop}{n:Int}(h:p):j4 true p n=n+1:=by unfold j4;rw[if_pos rfl,if_pos h]
noncomputable def pe (i:Int)(ats:List At)(w:List UInt8)(f:FT)(n:Int):List ST→Int
 | [x,y]=>
   let k:Rat:=if w.head?=some 62 then-1 else 1
   let e:=aP i x k ⟨[],0⟩
   let g:=aP i y (-k) e.1
   j4 (e.2&&g.2) (f.k=1∧f.a=n∧n<ats.length∧∃ a,ats[n.toNat]?=some a∧a.op=dh w∧Form a.e.t∧gW a.e g.1=true) n
 | _=> -1
mutual
noncomputable def cK (i:Int)(ats:List At):ST→FT→Int→Int
 | .mk true w _,f,n=>if w=[116,114,117,101]then(if f.k=5 then n else-2)else if w=[102,97,108,115,101]then(if f.k=6 then n else-2)else-1
 | .mk false _ [],_,_=> -1
 | .mk false _ (h::t),f,n=>
   if h.b=true then
    if aD h.w≠0 then
     if aD h.w=2∧t.length≠1 then-1
     else cP i ats t f.s (!(decide (f.k=aD h.w)&&decide (f.s.length=t.length))) n
    else if dh h.w=0 then-1
    else pe i ats h.w f n t
   else-1
noncomputable def cP (i:Int)(ats:List At):List ST→List FT→Bool→Int→Int
 | [],_,o,n=>if o=true then-2 else n
 | x::r,fs,o,n=>
   if cK i ats x (if o=true then .mk 0 0 []else fs.headD (.mk 0 0 [])) n= -1 then-1
   else cP i ats r fs.tail (o||decide (cK i ats x (if o=true then .mk 0 0 []else fs.headD (.mk 0 0 [])) n= -2)) (if 0≤cK i ats x (if o=true then .mk 0 0 []else fs.headD (.mk 0 0 [])) n then cK i ats x (if o=true then .mk 0 0 []else fs.headD (.mk 0 0 [])) n else n)
end
theorem sJ(i:Int)(ats:List At)(w:List UInt8)(l:List ST)(f:FT)(n:Int):cK i ats (.mk true w l) f n=if w=[116,114,117,101]then(if f.k=5 then n else-2)else if w=[102,97,108,115,101]then(if f.k=6 then n else-2)else-1:=by rw[cK]
theorem xm(i:Int)(ats:List At)(w:List UInt8)(f:FT)(n:Int):cK i ats (.mk false w []) f n= -1:=by rw[cK]
theorem sE(i:Int)(ats:List At)(w:List UInt8)(h:ST)(t:List ST)(f:FT)(n:Int):cK i ats (.mk false w (h::t)) f n=if h.b=true then(if aD h.w≠0 then(if aD h.w=2∧t.length≠1 then-1 else cP i ats t f.s (!(decide (f.k=aD h.w)&&decide (f.s.length=t.length))) n)else if dh h.w=0 then-1 else pe i ats h.w f n t)else-1:=by rw[cK]
theorem mI(i:Int)(w:List UInt8)(l:List ST)(n:Nat):aE i (.mk true w l) n=if w=[116,114,117,101]then(.mk 5 0 [],[],true)else if w=[102,97,108,115,101]then(.mk 6 0 [],[],true)else(.mk 0 0 [],[],false):=by rw[aE]
theorem mA(i:Int)(w:List UInt8)(n:Nat):aE i (.mk false w []) n=(.mk 0 0 [],[],false):=by rw[aE]
theorem ll(i:Int)(w:List UInt8)(h:ST)(t:List ST)(n:Nat):aE i (.mk false w (h::t)) n=if h.b=true then(if aD h.w≠0 then(.mk (aD h.w) 0 (az i t n).1,(az i t n).2.1,(az i t n).2.2&&!(decide (aD h.w=2)&&!decide (t.length=1)))else jc n (dY i h.w t))else(.mk 0 0 [],[],false):=by rw[aE]
theorem eh(i:Int)(s:ST)(r:List ST)(n:Nat):az i (s::r) n=((aE i s n).1::(az i r (n+(aE i s n).2.1.length)).1,(aE i s n).2.1++(az i r (n+(aE i s n).2.1.length)).2.1,(aE i s n).2.2&&(az i r (n+(aE i s n).2.1.length)).2.2):=by rw[az]
theorem bK(i:Int)(n:Nat):az i [] n=([],[],true):=by rw[az]
theorem jm(i:Int):∀ (l:List ST) (n:Nat),(az i l n).1.length=l.length
 | [],n=>by rw[bK];rfl
 | s::r,n=>by rw[eh,List.length_cons,List.length_cons,jm i r]
theorem xz(i:Int):∀ (m:Nat) (s:ST),wX s<m→gM s→∀ (n:Nat) (j:Int),cK i [] s (.mk 0 0 []) j=if (aE i s n).2.2=true then-2 else-1:=by
 intro m
 induction m with
 | zero=>intro s h;omega
 | succ m ih=>
 intro s hs hnf n j;obtain⟨b,w,l⟩:=s;rw[bt]at hs;rw[fA]at hnf;cases b with
 | true=>
   rw[sJ,mI];split
   ·rfl
   ·split
    ·rfl
    ·rfl
 | false=>
 cases l with
 | nil=>rw[xm,mA];rfl
 | cons h t=>
 have hnt:∀ x∈t,gM x:=fun x hx=>bQ hnf.2.2 x (List.mem_cons_of_mem h hx);have hw':∀ x∈t,wX x<m:=fun x hx=>by have:=(aO (List.mem_cons_of_mem h hx)).1;omega
 have row:∀ (t:List ST),(∀x∈t,wX x<m)→(∀x∈t,gM x)→∀ (n:Nat) (j:Int) (fs:List FT),cP i [] t fs true j=if (az i t n).2.2=true then-2 else-1:=by
  intro t
  induction t with
  | nil=>intro _ _ n j fs;rw[cP,bK];rfl
  | cons x r ihr=>
    intro hw hn n j fs;have h1:=ih x (hw x (by simp)) (hn x (by simp)) n j;rw[cP,eh,if_pos rfl,h1];cases hx:(aE i x n).2.2 with
    | false=>rfl
    | true=>
      rw[if_pos rfl,if_neg (by decide),Bool.true_and];exact ihr (fun y hy=>hw y (by simp[hy])) (fun y hy=>hn y (by simp[hy])) _ _ _
 rw[sE,ll];split
 ·split
  ·rename_i hk;split
   ·rename_i h2;have h3:decide (aD h.w=2)=true:=decide_eq_true h2.1;have h4:decide (t.length=1)=false:=decide_eq_false h2.2;rw[h3,h4,Bool.not_false,Bool.and_true,Bool.not_true,Bool.and_false];rfl
   ·rename_i h2;have h3:(!(decide (aD h.w=2)&&!decide (t.length=1)))=true:=by
     by_cases g1:aD h.w=2
     ·have g2:t.length=1:=Classical.byContradiction fun g=>h2 ⟨g1,g⟩;rw[decide_eq_true g2];simp
     ·rw[decide_eq_false g1];rfl
    have h4:(!(decide ((FT.mk 0 0 []).k=aD h.w)&&decide ((FT.mk 0 0 []).s.length=t.length)))=true:=by
     rw[decide_eq_false (show ¬(FT.mk 0 0 []).k=aD h.w from fun e=>hk e.symm)];rfl
    rw[h3,Bool.and_true,h4];exact row t hw' hnt n j _
  ·split
   ·rename_i h2
    match t with
    | []=>rfl
    | [x]=>rfl
    | [x,y]=>rw[show dY i h.w [x,y]=none from if_pos h2];rfl
    | _::_::_::_=>rfl
   ·rename_i h2
    match t,hw',hnt with
    | [],_,_=>rfl
    | [x],_,_=>rfl
    | [x,y],hw',hnt=>
      unfold pe;dsimp only;rw[show dY i h.w [x,y]=some _ from if_neg h2];obtain⟨_,g1⟩:=kt i _ x (Nat.lt_succ_self _) (hnt x (by simp)) (if h.w.head?=some 62 then-1 else 1) ⟨[],0⟩;obtain⟨_,g2⟩:=kt i _ y (Nat.lt_succ_self _) (hnt y (by simp)) (-(if h.w.head?=some 62 then-1 else 1)) (aP i x (if h.w.head?=some 62 then-1 else 1) ⟨[],0⟩).1;rw[g1,g2,Dc (fun h=>absurd h.1 (by decide))];rfl
    | _::_::_::_,_,_=>rfl
 ·rfl
theorem vU(i:Int):∀ (m:Nat) (s:ST),wX s<m→gM s→∀ (pre post:List At),(aE i s pre.length).2.2=true→cK i (pre++(aE i s pre.length).2.1++post) s (aE i s pre.length).1 pre.length=((pre.length+(aE i s pre.length).2.1.length:Nat):Int):=by
 intro m
 induction m with
 | zero=>intro s h;omega
 | succ m ih=>
 intro s hs hnf pre post hok;obtain⟨b,w,l⟩:=s;rw[bt]at hs;rw[fA]at hnf;cases b with
 | true=>
   rw[sJ];rw[mI]at hok ⊢;split
   ·rfl
   ·rename_i h1;rw[if_neg h1]at hok;split
    ·rfl
    ·rename_i h2;rw[if_neg h2]at hok;cases hok
 | false=>
 cases l with
 | nil=>rw[mA]at hok;cases hok
 | cons h t=>
 have hnt:∀ x∈t,gM x:=fun x hx=>bQ hnf.2.2 x (List.mem_cons_of_mem h hx);have hw':∀ x∈t,wX x<m:=fun x hx=>by have:=(aO (List.mem_cons_of_mem h hx)).1;omega
 have row:∀ (t:List ST),(∀x∈t,wX x<m)→(∀x∈t,gM x)→∀ (pre post:List At),(az i t pre.length).2.2=true→cP i (pre++(az i t pre.length).2.1++post) t (az i t pre.length).1 false pre.length=((pre.length+(az i t pre.length).2.1.length:Nat):Int):=by
  intro t
  induction t with
  | nil=>intro _ _ pre post _;rw[cP,bK];rfl
  | cons x r ihr=>
    intro hw hn pre post hok;rw[eh]at hok ⊢;dsimp only at hok ⊢;rw[Bool.and_eq_true]at hok;have h1:=ih x (hw x (by simp)) (hn x (by simp)) pre ((az i r (pre.length+(aE i x pre.length).2.1.length)).2.1++post) hok.1;have e1:pre++(aE i x pre.length).2.1++((az i r (pre.length+(aE i x pre.length).2.1.length)).2.1++post)=pre++((aE i x pre.length).2.1++(az i r (pre.length+(aE i x pre.length).2.1.length)).2.1)++post:=by simp
    rw[e1]at h1;rw[cP,if_neg (show ¬false=true by decide),List.headD_cons,h1,if_neg (by omega),if_pos (by omega),decide_eq_false (by omega),Bool.or_false,List.tail_cons];have h2:=ihr (fun y hy=>hw y (by simp[hy])) (fun y hy=>hn y (by simp[hy])) (pre++(aE i x pre.length).2.1) post (by rw[List.length_append];exact hok.2);rw[List.length_append]at h2;rw[List.append_assoc pre]at h2;rw[h2,List.length_append,Nat.add_assoc]
 rw[sE];rw[ll]at hok ⊢;split
 ·rename_i hb;rw[if_pos hb]at hok;split
  ·rename_i hk;rw[if_pos hk]at hok;dsimp only at hok ⊢;rw[Bool.and_eq_true]at hok;rw[if_neg (fun h2=>by have:=hok.2;rw[decide_eq_true h2.1,decide_eq_false h2.2]at this;cases this)];have h4:(!(decide ((FT.mk (aD h.w) 0 (az i t pre.length).1).k=aD h.w)&&decide ((FT.mk (aD h.w) 0 (az i t pre.length).1).s.length=t.length)))=false:=by
    rw[decide_eq_true (show (FT.mk (aD h.w) 0 (az i t pre.length).1).k=aD h.w from rfl),decide_eq_true (show (FT.mk (aD h.w) 0 (az i t pre.length).1).s.length=t.length from jm i t _)];rfl
   rw[h4];exact row t hw' hnt pre post hok.1
  ·rename_i hk;rw[if_neg hk]at hok
   match t,hw',hnt,hok with
   | [],_,_,hok=>cases hok
   | [x],_,_,hok=>cases hok
   | [x,y],hw',hnt,hok=>
     by_cases h2:dh h.w=0
     ·rw[show dY i h.w [x,y]=none from if_pos h2]at hok;cases hok
     ·have e1:dY i h.w [x,y]=some (⟨if h.w.head?=some 62 then cH (ak i y).1 (ak i x).1 else cH (ak i x).1 (ak i y).1,dh h.w⟩,(ak i x).2&&(ak i y).2):=by unfold dY;exact if_neg h2
      rw[e1]at hok ⊢;simp only[jc]at hok ⊢;rw[if_neg h2];unfold pe;dsimp only;obtain⟨g1,g2⟩:=kt i _ x (Nat.lt_succ_self _) (hnt x (by simp)) (if h.w.head?=some 62 then-1 else 1) ⟨[],0⟩;obtain⟨g3,g4⟩:=kt i _ y (Nat.lt_succ_self _) (hnt y (by simp)) (-(if h.w.head?=some 62 then-1 else 1)) (aP i x (if h.w.head?=some 62 then-1 else 1) ⟨[],0⟩).1;rw[g2,g4,show ((ak i x).2&&(ak i y).2)=true from hok,vH ?_]
      ·rfl
      ·refine⟨rfl,rfl,by simp;omega,_,by simp;rfl,rfl,?_,?_⟩
       ·dsimp only;split
        ·exact(eg _).1
        ·exact(eg _).1
       ·refine(rQ _ _).2 ⟨fun v=>?_,?_⟩
        ·rw[g3.1,g1.1];dsimp only;split
         ·rw[jT];simp only[ar];grind
         ·rw[jT];simp only[ar];grind
        ·rw[g3.2,g1.2];dsimp only;split
         ·rw[nF];grind
         ·rw[nF];grind
   | _::_::_::_,_,_,hok=>cases hok
 ·rename_i hb;rw[if_neg hb]at hok;cases hok
