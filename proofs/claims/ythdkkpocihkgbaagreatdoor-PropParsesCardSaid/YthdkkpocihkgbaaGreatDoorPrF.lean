import Derived.Test.YthdkkpocihkgbaaGreatDoorPrK
import Derived.Test.YthdkkpocihkgbaaGreatDoorLin
import Derived.Test.YthdkkpocihkgbaaGreatDoorNuB
set_option maxRecDepth 100000
set_option maxHeartbeats 8000000
namespace Go.Proofs.YthdkkpocihkgbaaGreatDoor
open Go.RowKit
attribute [local irreducible] AC Do St
theorem yt(t:Tm)(l:List Tm):dU (t::l)=ik t (dU l):=by
 obtain⟨h1,h2,_⟩:=eg l;obtain⟨q1,q2⟩:=nj (t:=t) h1;exact ku q1 fun v=>by rw[q2,ar,ar,h2]
theorem v7(t:Tm):∀ l:List Tm,tb (ik t l)≤bz t.2+1+tb l
 | []=>by unfold ik;split<;>simp[tb]
 | u::l=>by
   have ih:=v7 t l;have hb:=gQ t.2 u.2;unfold ik
   repeat' split
   all_goals simp only[tb]
   all_goals omega
theorem qO(l:List Tm):tb (dU l)≤tb l:=by
 induction l with
 | nil=>rw[ku (o:=[]) ⟨.nil,by simp⟩ fun _=>rfl];exact Nat.le_refl _
 | cons t l ih=>
   rw[yt];have:=v7 t (dU l);simp only[tb];omega
theorem jx(r:Rat):∀ l:List Tm,tb (l.map (fE r))≤tb l+l.length*bz r
 | []=>by simp[tb]
 | t::l=>by
   have ih:=jx r l;have hb:=dT r t.2;simp only[List.map_cons,tb,List.length_cons,Nat.succ_mul];show bz (r*t.2)+1+_≤_;omega
theorem we(a b:Ex):tb (eK a b).t≤tb a.t+tb b.t∧(eK a b).t.length≤a.t.length+b.t.length∧bz (eK a b).c≤bz a.c+bz b.c+1:=by
 have h1:=qO (a.t++b.t);have h2:=(eg (a.t++b.t)).2.2;rw[nP]at h1;rw[List.length_append]at h2;exact⟨h1,h2,gQ _ _⟩
theorem iS(r:Rat)(e:Ex):tb (cy r e).t≤tb e.t+e.t.length*bz r∧(cy r e).t.length≤e.t.length∧bz (cy r e).c≤bz r+bz e.c:=by
 have h1:=qO (e.t.map (fE r));have h2:=(eg (e.t.map (fE r))).2.2;have h3:=jx r e.t;rw[List.length_map]at h2;exact⟨Nat.le_trans h1 h3,h2,dT _ _⟩
theorem gK:bz (-1:Rat)=1:=Nat.le_antisymm (km ⟨by decide,by decide⟩) (pO _)
theorem uk:bz (1:Rat)=1:=Nat.le_antisymm (km ⟨by decide,by decide⟩) (pO _)
theorem dX:bz (0:Rat)=1:=Nat.le_antisymm (km ⟨by decide,by decide⟩) (pO _)
theorem qQ(a b:Ex):tb (cH a b).t≤tb a.t+tb b.t+b.t.length∧(cH a b).t.length≤a.t.length+b.t.length∧bz (cH a b).c≤bz a.c+bz b.c+2:=by
 obtain⟨h1,h2,h3⟩:=iS (-1) b;obtain⟨h4,h5,h6⟩:=we a (cy (-1) b);rw[gK]at h1 h3;unfold cH;exact⟨by omega,by omega,by omega⟩
mutual
def wX:ST→Nat
 | .mk _ w l=>w.length+1+bI l
def bI:List ST→Nat
 | []=>0
 | s::r=>wX s+bI r
end
mutual
def cX:ST→Nat
 | .mk _ _ l=>1+aK l
def aK:List ST→Nat
 | []=>0
 | s::r=>cX s+aK r
end
theorem bt(b:Bool)(w:List UInt8)(l:List ST):wX (.mk b w l)=w.length+1+bI l:=by rw[wX]
theorem aY(b:Bool)(w:List UInt8)(l:List ST):cX (.mk b w l)=1+aK l:=by rw[cX]
theorem aA(s:ST)(r:List ST):bI (s::r)=wX s+bI r:=by rw[bI]
theorem aj(s:ST)(r:List ST):aK (s::r)=cX s+aK r:=by rw[aK]
theorem cT:bI []=0:=by rw[bI]
theorem bd:aK []=0:=by rw[aK]
mutual
theorem E7:∀ s:ST,cX s≤wX s
 | .mk b w l=>by have:=sx l;rw[aY,bt];omega
theorem sx:∀ l:List ST,aK l≤bI l
 | []=>by rw[bd];exact Nat.zero_le _
 | s::r=>by have:=E7 s;have:=sx r;rw[aj,aA];omega
end
theorem aO:∀ {l:List ST} {s:ST},s∈l→wX s≤bI l∧cX s≤aK l
 | [],s,h=>nomatch h
 | x::r,s,h=>by
   rw[aA,aj];rcases List.mem_cons.1 h with rfl | h
   ·omega
   ·have:=aO h;omega
theorem jd(s:ST):1≤wX s:=by obtain⟨b,w,l⟩:=s;rw[bt];omega
theorem jZ(s:ST):1≤cX s:=by obtain⟨b,w,l⟩:=s;rw[aY];omega
theorem cj:∀ l:List ST,l.length≤aK l
 | []=>Nat.zero_le _
 | s::r=>by have:=cj r;have:=jZ s;rw[aj,List.length_cons];omega
theorem jB(s:ST):s.w.length<wX s:=by obtain⟨b,w,l⟩:=s;rw[bt];show w.length<_;omega
def kX(s:ST):Nat:=cX s*(4*wX s+8)
theorem nX{b:Bool}{w:List UInt8}{l:List ST}{s:ST}(h:s∈l):kX s≤kX (.mk b w l):=by
 have h1:=aO h;unfold kX;rw[aY,bt];exact Nat.mul_le_mul (by omega) (by omega)
def ey(i:Int)(w:List UInt8):Int×Bool:=match w with
 | []=>(0,false)
 | c::t=>if t.length<1∨6<t.length∨(c.toNat≠120∧c.toNat≠121)∨(t.head?=some 48∧1<t.length)then(0,false)
   else if ∀x∈t,bD x then(if c.toNat=121 then(IntKind.i64.wrap (i+(aR 0 t:Int)),true)else((aR 0 t:Int),decide ((aR 0 t:Int)<i)))else(0,false)
noncomputable def k8 (vs:List (Ex×Bool)):Ex×Bool:=vs.foldl (fun s x=>(eK s.1 x.1,s.2&&x.2)) (⟨[],0⟩,true)
def aZ(s:ST):Rat×Bool:=(((aX s.w).getD 0),s.b&&(aX s.w).isSome)
noncomputable def EZ:List (Ex×Bool)→Ex×Bool
 | []=>(⟨[],0⟩,false)
 | [x]=>(cy (-1) x.1,x.2)
 | [x,y]=>(cH x.1 y.1,x.2&&y.2)
 | _::_::_::_=>(⟨[],0⟩,false)
noncomputable def Fa (n:ST):List (Ex×Bool)→Ex×Bool
 | []=>(⟨[],0⟩,false)
 | [_]=>(⟨[],0⟩,false)
 | [_,y]=>(cy (aZ n).1 y.1,(aZ n).2&&y.2)
 | _::_::_::_=>(⟨[],0⟩,false)
noncomputable def Fc:List ST→List (Ex×Bool)→Ex×Bool
 | [],_=>(⟨[],0⟩,false)
 | [_],_=>(⟨[],0⟩,false)
 | [n,_],vs=>Fa n vs
 | _::_::_::_,_=>(⟨[],0⟩,false)
noncomputable def wC (hw:List UInt8)(t:List ST)(vs:List (Ex×Bool)):Ex×Bool:=
 if hw=[43]then k8 vs else if hw=[45]then EZ vs else if hw=[42]then Fc t vs else(⟨[],0⟩,false)
noncomputable def oM:List ST→List (Ex×Bool)→Ex×Bool
 | [],_=>(⟨[],0⟩,false)
 | _::_,[]=>(⟨[],0⟩,false)
 | h::t,_::vs=>if h.b=true then wC h.w t vs else(⟨[],0⟩,false)
noncomputable def lA (i:Int)(w:List UInt8):Ex×Bool:=if (ey i w).2=true then(⟨[((ey i w).1,1)],0⟩,true)else(⟨[],(aX w).getD 0⟩,(aX w).isSome)
mutual
noncomputable def ak (i:Int):ST→Ex×Bool
 | .mk b w l=>if b=true then lA i w else oM l (oG i l)
noncomputable def oG (i:Int):List ST→List (Ex×Bool)
 | []=>[]
 | s::r=>ak i s::oG i r
end
theorem jy(i:Int)(b:Bool)(w:List UInt8)(l:List ST):ak i (.mk b w l)=if b=true then lA i w else oM l (oG i l):=by rw[ak]
theorem jY(i:Int):∀ l:List ST,oG i l=l.map (ak i)
 | []=>by rw[oG];rfl
 | s::r=>by rw[oG,jY i r];rfl
def exB(n k:Nat)(e:Ex):Prop:=tb e.t≤k∧e.t.length≤n∧bz e.c≤k
theorem nL:∀ (vs:List (Ex×Bool)) (l:List ST) (s:Ex×Bool) (N W K:Nat),vs.length=l.length→(∀j (h:j<vs.length) (h':j<l.length),exB (cX l[j]) (kX l[j]) vs[j].1)→tb s.1.t≤K→s.1.t.length≤N→bz s.1.c≤K→bI l≤W→
  exB (N+aK l) (K+aK l*(4*W+9)) (vs.foldl (fun s x=>(eK s.1 x.1,s.2&&x.2)) s).1
 | [],l,s,N,W,K,hl,_,h1,h2,h3,_=>by
   obtain rfl:l=[]:=List.eq_nil_of_length_eq_zero (by simpa using hl.symm);rw[bd];exact⟨by simpa using h1,by simpa using h2,by simpa using h3⟩
 | v::vs,[],s,N,W,K,hl,_,_,_,_,_=>by simp at hl
 | v::vs,x::l,s,N,W,K,hl,hv,h1,h2,h3,hW=>by
   obtain⟨q1,q2,q3⟩:=we s.1 v.1;obtain⟨p1,p2,p3⟩:=hv 0 (by simp) (by simp);rw[aA]at hW;have hk:kX x≤cX x*(4*W+8):=Nat.mul_le_mul_left _ (by omega);have hk2:cX x*(4*W+9)=cX x*(4*W+8)+cX x:=Nat.mul_succ ..;have hp:=jZ x;simp only[List.getElem_cons_zero]at p1 p2 p3;have:=nL vs l (eK s.1 v.1,s.2&&v.2) (N+cX x) W (K+cX x*(4*W+9)) (by simpa using hl) (fun j h h'=>hv (j+1) (by simpa using h) (by simpa using h')) (by dsimp only;omega) (by dsimp only;omega) (by dsimp only;omega) (by omega);rw[List.foldl_cons,aj,Nat.add_mul];unfold exB at this ⊢;rw[←Nat.add_assoc,←Nat.add_assoc];exact this
theorem exB.mono{n k n' k':Nat}{e:Ex}(h:exB n k e)(hn:n≤n')(hk:k≤k'):exB n' k' e:=⟨Nat.le_trans h.1 hk,Nat.le_trans h.2.1 hn,Nat.le_trans h.2.2 hk⟩
theorem dO(w:List UInt8):bz ((aX w).getD 0)≤4*w.length+4:=by
 cases hp:aX w with
 | none=>rw[Option.getD_none,dX];omega
 | some q=>exact km (yp (Nat.le_refl _) hp)
theorem kB(i:Int):∀ (n:Nat) (s:ST),wX s<n→exB (cX s) (kX s) (ak i s).1:=by
 intro n
 induction n with
 | zero=>intro s h;omega
 | succ n ih=>
 intro s hs;obtain⟨b,w,l⟩:=s;rw[jy];have hq:=dO w;rw[bt]at hs;have hK:kX (.mk b w l)=(1+aK l)*(4*(w.length+1+bI l)+8):=by unfold kX;rw[aY,bt]
 have hK0:4*(w.length+1+bI l)+8≤kX (.mk b w l):=by rw[hK];exact Nat.le_mul_of_pos_left _ (by omega)
 have hbad:exB (cX (.mk b w l)) (kX (.mk b w l)) (⟨[],0⟩:Ex):=⟨by simp[tb],by simp,by rw[show (⟨[],0⟩:Ex).c=0 from rfl,dX];omega⟩
 by_cases hb:b=true
 ·rw[if_pos hb];unfold lA;split
  ·exact⟨by simp only[tb,uk];omega,by rw[aY];simp,by rw[show (⟨[((ey i w).1,1)],0⟩:Ex).c=0 from rfl,dX];omega⟩
  ·exact⟨by simp[tb],by simp,by dsimp only;omega⟩
 rw[if_neg hb,jY];have ih':∀ x∈l,exB (cX x) (kX x) (ak i x).1:=fun x hx=>ih x (by have:=(aO hx).1;omega);cases l with
 | nil=>exact hbad
 | cons h t=>
 rw[aA,aj]at hK;rw[List.map_cons,oM];have hwp:=jd h;split
 ·unfold wC;split
  ·refine(nL (t.map (ak i)) t (⟨[],0⟩,true) 0 (bI t) 1 (by simp) (fun j h1 h2=>?_) (by simp[tb]) (by simp) (by rw[show (⟨[],0⟩:Ex).c=0 from rfl,dX];omega) (Nat.le_refl _)).mono ?_ ?_
   ·rw[List.getElem_map];exact ih' _ (List.mem_cons_of_mem _ (List.getElem_mem h2))
   ·rw[aY,aj];omega
   ·rw[hK];have e1:(1+aK t)*(4*bI t+9)=4*bI t+9+aK t*(4*bI t+9):=by rw[Nat.add_mul,Nat.one_mul]
    have e2:(1+aK t)*(4*bI t+9)≤(1+(cX h+aK t))*(4*(w.length+1+(wX h+bI t))+8):=Nat.mul_le_mul (by omega) (by omega);omega
  ·split
   ·match t,ih',hK with
    | [],_,_=>exact hbad
    | [x],ih',hK=>
      rw[aA,cT,aj,bd]at hK;obtain⟨p1,p2,p3⟩:=ih' x (by simp);obtain⟨q1,q2,q3⟩:=iS (-1) (ak i x).1;rw[gK]at q1 q3;have e1:cX x*(4*wX x+9)=kX x+cX x:=Nat.mul_succ ..;have e2:(cX x+1)*(4*wX x+9)≤kX (.mk b w [h,x]):=by rw[hK];exact Nat.mul_le_mul (by omega) (by omega)
      have e3:(cX x+1)*(4*wX x+9)=cX x*(4*wX x+9)+(4*wX x+9):=Nat.succ_mul ..;show exB _ _ (cy (-1) (ak i x).1);exact⟨by omega,by rw[aY,aj,aj];omega,by omega⟩
    | [x,y],ih',hK=>
      rw[aA,aA,cT,aj,aj,bd]at hK;obtain⟨p1,p2,p3⟩:=ih' x (by simp);obtain⟨r1,r2,r3⟩:=ih' y (by simp);obtain⟨q1,q2,q3⟩:=qQ (ak i x).1 (ak i y).1;have e1:cX y*(4*wX y+9)=kX y+cX y:=Nat.mul_succ ..;have e2:(cX x+cX y+1)*(4*(wX x+wX y)+9)≤kX (.mk b w [h,x,y]):=by rw[hK];exact Nat.mul_le_mul (by omega) (by omega)
      have e3:(cX x+cX y+1)*(4*(wX x+wX y)+9)=cX x*(4*(wX x+wX y)+9)+cX y*(4*(wX x+wX y)+9)+(4*(wX x+wX y)+9):=by rw[Nat.add_mul,Nat.add_mul,Nat.one_mul]
      have e4:kX x≤cX x*(4*(wX x+wX y)+9):=Nat.mul_le_mul_left _ (by omega);have e5:cX y*(4*wX y+9)≤cX y*(4*(wX x+wX y)+9):=Nat.mul_le_mul_left _ (by omega);show exB _ _ (cH (ak i x).1 (ak i y).1);exact⟨by omega,by rw[aY,aj,aj,aj];omega,by omega⟩
    | _::_::_::_,_,_=>exact hbad
   ·split
    ·match t,ih',hK with
     | [],_,_=>exact hbad
     | [x],_,_=>exact hbad
     | [x,y],ih',hK=>
       rw[aA,aA,cT,aj,aj,bd]at hK;obtain⟨r1,r2,r3⟩:=ih' y (by simp);obtain⟨q1,q2,q3⟩:=iS (aZ x).1 (ak i y).1;have hn:bz (aZ x).1≤4*x.w.length+4:=dO x.w;have hx:=jB x;have hxc:=jZ x;have e0:(ak i y).1.t.length*bz (aZ x).1≤cX y*(4*x.w.length+4):=Nat.mul_le_mul r2 hn;have e1:cX y*(4*wX y+8)+cX y*(4*x.w.length+4)=cX y*(4*wX y+8+(4*x.w.length+4)):=(Nat.mul_add ..).symm;have e2:(cX y+1)*(4*wX y+8+(4*x.w.length+4))≤kX (.mk b w [h,x,y]):=by rw[hK];exact Nat.mul_le_mul (by omega) (by omega)
       have e3:(cX y+1)*(4*wX y+8+(4*x.w.length+4))=cX y*(4*wX y+8+(4*x.w.length+4))+(4*wX y+8+(4*x.w.length+4)):=Nat.succ_mul ..;have e4:kX y=cX y*(4*wX y+8):=rfl;show exB _ _ (cy (aZ x).1 (ak i y).1);exact⟨by omega,by rw[aY,aj,aj,aj];omega,by omega⟩
     | _::_::_::_,_,_=>exact hbad
    ·exact hbad
 ·exact hbad
def aD(w:List UInt8):Int:=if w=[110,111,116]then 2 else if w=[97,110,100]then 3 else if w=[111,114]then 4 else 0
def dh(w:List UInt8):Int:=if w=[60,61]∨w=[62,61]then 1 else if w=[60]∨w=[62]then 2 else if w=[61]then 3 else 0
noncomputable def dY (i:Int)(w:List UInt8):List ST→Option (At×Bool)
 | [x,y]=>if dh w=0 then none else some (⟨if w.head?=some 62 then cH (ak i y).1 (ak i x).1 else cH (ak i x).1 (ak i y).1,dh w⟩,(ak i x).2&&(ak i y).2)
 | _=>none
def jc(n:Nat):Option (At×Bool)→FT×List At×Bool
 | some a=>(.mk 1 n [],[a.1],a.2)
 | none=>(.mk 0 0 [],[],false)
mutual
noncomputable def aE (i:Int):ST→Nat→FT×List At×Bool
 | .mk true w _,_=>if w=[116,114,117,101]then(.mk 5 0 [],[],true)else if w=[102,97,108,115,101]then(.mk 6 0 [],[],true)else(.mk 0 0 [],[],false)
 | .mk false _ [],_=>(.mk 0 0 [],[],false)
 | .mk false _ (h::t),n=>
   if h.b=true then
    if aD h.w≠0 then
     (.mk (aD h.w) 0 (az i t n).1,(az i t n).2.1,(az i t n).2.2&&!(decide (aD h.w=2)&&!decide (t.length=1)))
    else jc n (dY i h.w t)
   else(.mk 0 0 [],[],false)
noncomputable def az (i:Int):List ST→Nat→List FT×List At×Bool
 | [],_=>([],[],true)
 | s::r,n=>((aE i s n).1::(az i r (n+(aE i s n).2.1.length)).1,(aE i s n).2.1++(az i r (n+(aE i s n).2.1.length)).2.1,(aE i s n).2.2&&(az i r (n+(aE i s n).2.1.length)).2.2)
end
end Go.Proofs.YthdkkpocihkgbaaGreatDoor
namespace Go.Proofs.YthdkkpocihkgbaaGreatDoor
open Go.RowKit
attribute [local irreducible] AC Do St
section
variable {P:Program}{C:Cx}{o:Oper}{σ:AS}
theorem Loc.xr{x:Operand}{b p:Nat}(ho:o.op= .nilCheck x)(hx:ev σ x= .d (.v (aT b p))):Loc P C o σ (.d (.v (aT b p))):=
 Loc.one (by rw[ho];simp[Op.operands]) hx fun S w β O a h1=>⟨aT b p,by unfold execOp;rw[ho];simp[RA.val h1],.mk rfl⟩
end
theorem wr{p q:Prop}(k:q)(hs:Wk q→p:=by
  intro k
  try (first | intro K ms hms hK | intro K hK)
  repeat (first
   | refine Ch.no rfl rfl ?_
   | refine Ch.iX rfl rfl ?_
   | ((first | apply Ch.go | apply Ch.ah);exact rfl;exact rfl;first
     | exact Loc.move (v:= .d _) rfl rfl
     | exact Loc.assign (v:= .d _) rfl rfl
     | exact Loc.xr rfl rfl
     | exact Loc.chkP rfl rfl rfl
     | exact Loc.oy rfl rfl
     | exact Loc.u7 rfl rfl
     | exact Loc.eC (id:=164) rfl rfl rfl rfl
     | exact Loc.eC (id:=119) rfl rfl rfl rfl
     | exact Loc.eC (id:=181) rfl rfl rfl rfl
     | exact Loc.eC (id:=200) rfl rfl rfl rfl
     | exact Loc.eC (id:=12) rfl rfl rfl rfl
     | exact Loc.c7 rfl rfl rfl rfl
     | exact Loc.cU rfl rfl rfl
     | exact Loc.cY rfl rfl rfl
     | exact Loc.cV rfl rfl
     | exact Loc.bh (v:= .d _) rfl rfl rfl
     | exact Loc.bk (v:= .d _) rfl rfl rfl
     | exact Loc.cz rfl rfl rfl rfl (by kernel_rfl)
     | exact Loc.cZ rfl rfl rfl
     | exact Loc.cQ rfl rfl rfl rfl
     | exact Loc.ea rfl rfl rfl rfl (by assumption) rfl
     | exact Loc.fN rfl rfl
     | exact Loc.fP rfl rfl
     | exact Loc.fM rfl rfl rfl
     | exact Loc.len rfl rfl
     | exact Loc.eb rfl rfl rfl (by omega)
     | exact Loc.eG rfl rfl rfl (by omega)
     | exact Loc.ec rfl rfl rfl (by omega)
     | exact Loc.eE rfl rfl rfl (by omega)
     | exact Loc.eP rfl rfl rfl (by omega)
     | exact Loc.eM rfl rfl rfl (by omega)
     | exact Loc.eD rfl rfl rfl (by omega)
     | exact Loc.eF rfl rfl rfl (by omega)
     | exact Loc.gn rfl rfl rfl (by omega)
     | exact Loc.gp rfl rfl rfl (by omega)
     | exact Loc.gG rfl rfl rfl (by omega)
     | exact Loc.gH rfl rfl rfl (by omega)
     | exact Loc.add rfl rfl rfl (IntWalk.i64_in _ (by omega))
     | exact Loc.sub rfl rfl rfl (IntWalk.i64_in _ (by omega))
     | exact Loc.fL rfl rfl
     | exact Loc.fJ rfl rfl
     | exact Loc.cW rfl rfl rfl
     | exact Loc.c8 rfl rfl rfl (by assumption) rfl
     | exact Loc.cB rfl rfl rfl rfl rfl (by omega) rfl
     | exact Loc.move (v:= .g _) rfl rfl
     | exact Loc.move (v:= .p _ _) rfl rfl
     | exact Loc.move (v:= .r _ _) rfl rfl
     | exact Loc.move (v:= .t _) rfl rfl
     | exact Loc.assign (v:= .g _) rfl rfl
     | exact Loc.assign (v:= .r _ _) rfl rfl
     | exact Loc.assign (v:= .p _ _) rfl rfl
     | exact Loc.extract (v:= .d _) rfl rfl rfl rfl
     | exact Loc.extract (v:= .g _) rfl rfl rfl rfl
     | exact Loc.bh (v:= .g _) rfl rfl rfl
     | exact Loc.bk (v:= .g _) rfl rfl rfl
     | exact Loc.move (v:= .un) rfl rfl
     | exact Loc.build rfl rfl rfl rfl)
   | refine Ch.eO (hK _ ?_)
   | ((first | apply Ch.st | apply Ch.aU);exact rfl;exact rfl;(first
     | exact Do.dt (id:=164) rfl rfl rfl rfl rfl rfl rfl rfl
     | exact Do.dt (id:=119) rfl rfl rfl rfl rfl rfl rfl rfl
     | exact Do.dt (id:=181) rfl rfl rfl rfl rfl rfl rfl rfl
     | exact Do.dt (id:=200) rfl rfl rfl rfl rfl rfl rfl rfl
     | exact Do.dt (id:=12) rfl rfl rfl rfl rfl rfl rfl rfl
     | exact Do.aC rfl rfl rfl rfl .g rfl rfl rfl
     | exact Do.aC rfl rfl rfl rfl .d rfl rfl rfl
     | exact Do.aC rfl rfl rfl rfl (.r rfl) rfl rfl rfl);exact rfl;exact rfl)
   | ((first | apply Ch.ef | apply Ch.bU);exact rfl;exact rfl;(first
     | exact Do.alloc rfl rfl rfl
     | exact Do.box rfl rfl rfl .g rfl
     | exact Do.box rfl rfl rfl .d rfl
     | exact Do.fI rfl rfl
     | exact Do.ck rfl rfl rfl rfl rfl rfl (by first | omega | (simp;omega))
     | exact Do.bS rfl rfl rfl rfl rfl rfl);exact rfl;exact rfl)
   | refine Ch.fK (by rw[hms];kernel_rfl) (hK _ ?_)
   | refine Ch.iY rfl rfl ?_
   | refine AC.seq ?_
   | (refine AC.mm (by decide+kernel) ?_;intro K hK)
   | (refine AC.ox (by decide+kernel) ?_;intro K hK)
   | (refine AC.qG (by kernel_rfl) (by decide+kernel) ?_;intro K ms hms hK)
   | (refine AC.pD (by kernel_rfl) (by decide+kernel) ?_;intro K ms hms hK)
   | refine AC.jg rfl ?_
   | refine AC.ji rfl ?_
   | refine AC.block ?_
   | refine AC.exit ?_
   | refine AC.ret ?_
   | refine AC.skip ?_)
  first
   | exact k.out
   | (revert K;exact k.out)
   | (revert K ms;exact k.out)):p:=hs ⟨k⟩
def j5(b:Nat)(src:List UInt8)(i:Nat)(n e p:Int):List (Value×ej):=[(aT b 0,fm b 207 [.v (.string (tx src)),.v (.int .i64 (i:Int)),.v (.int .i64 n),.v (.int .i64 e),.v (.int .i64 p)])]
def tP(b:Nat)(src:List UInt8)(i:Nat)(n e p:Int):AO:=bL b 207 [.v (.string (tx src)),.v (.int .i64 (i:Int)),.v (.int .i64 n),.v (.int .i64 e),.v (.int .i64 p)]
def B7(b:Nat)(src:List UInt8)(i:Nat)(n e p:Int)(r:List DV):List (Value×ej)→List DV→Prop:=fun post res=>post=j5 b src i n e p∧res=r
theorem qe{P:Program}{σ:AS}{rs:List ResultVar}{nt b:Nat}{src:List UInt8}{i:Nat}{n e p:Int}{r:List DV}(h0:af σ.objs (nt+100+0)=some (tP b src i n e p))(hr:ressX P σ rs r):∃ post res,B7 b src i n e p r post res∧post.length=1∧ressX P σ rs res∧∀ j (h:j<post.length),af σ.objs (nt+100+j)=some (.own post[j].1 post[j].2):=
 ⟨_,_,⟨rfl,rfl⟩,rfl,hr,fun j h=>by
  match j,h with
  | 0,_=>exact h0
  | j+1,h=>exact absurd h (by simp[j5])⟩
def kE(c:UInt8):Bool:=decide (c.toNat=32)||(decide (c.toNat=9)||(decide (c.toNat=10)||decide (c.toNat=13)))
def aI:Bool→List UInt8→List UInt8
 | _,[]=>[]
 | false,c::r=>if kE c=true then aI false r else if c.toNat=59 then aI true r else c::r
 | true,c::r=>if c.toNat=10 then aI false r else aI true r
theorem lX{c:UInt8}{r:List UInt8}(h:c.toNat=32∨c.toNat=9∨c.toNat=10∨c.toNat=13):aI false (c::r)=aI false r:=by
 rw[aI];refine if_pos ?_;unfold kE;rcases h with h | h | h | h<;>simp[h]
theorem AQ{c:UInt8}{r:List UInt8}(h:c.toNat=59):aI false (c::r)=aI true (c::r):=by
 rw[aI,aI,if_neg (by unfold kE;simp[h]),if_pos h,if_neg (by omega)]
theorem yv{c:UInt8}{r:List UInt8}(h:c.toNat≠10):aI true (c::r)=aI true r:=by
 rw[aI,if_neg h]
theorem yh{c:UInt8}{r:List UInt8}(h:c.toNat=10):aI true (c::r)=aI false (c::r):=by
 rw[lX (.inr (.inr (.inl h))),aI,if_pos h]
theorem zY{c:UInt8}{r:List UInt8}(h1:c.toNat≠32)(h2:c.toNat≠9)(h3:c.toNat≠10)(h4:c.toNat≠13)(h5:c.toNat≠59):aI false (c::r)=c::r:=by
 rw[aI,if_neg (by unfold kE;simp[h1,h2,h3,h4]),if_neg h5]
theorem eQ:∀ (b:Bool) (s:List UInt8),(aI b s).length≤s.length
 | b,[]=>by cases b<;>simp[aI]
 | false,c::r=>by
   rw[aI];have h1:=eQ false r;have h2:=eQ true r;split
   ·simp;omega
   ·split
    ·simp;omega
    ·simp
 | true,c::r=>by
   rw[aI];have h1:=eQ false r;have h2:=eQ true r;split
   ·simp;omega
   ·simp;omega
theorem nJ(b:Nat)(src:List UInt8)(i:Nat)(n e p a k:Int):FnO Tryz.prog 152 (fun _=>True) (j5 b src i n e p) [.d (.v (aT b 0)),.d (.v (.int .i64 a)),.d (.v (.int .i64 k))] (B7 b src i n (if e=0 then k else e) (if e=0 then a else p) []):=by
 refine FnO.of Tryz.func152 rfl (by kernel_rfl) Tryz.ntmps152 Tryz.results152 rfl rfl fun w0 S0 vs hS hv hKW=>⟨_,fun t v h=> .inl h,?_⟩
 by_cases h0:e=0
 ·rw[if_pos h0,if_pos h0];refine wr ?_;exact qe rfl trivial
 ·rw[if_neg h0,if_neg h0];refine wr ?_;exact qe rfl trivial
theorem qU{src:List UInt8}{j:Nat}(h:j<src.length):∃ c,src[j]?=some c∧src.drop j=c::src.drop (j+1):=⟨src[j],List.getElem?_eq_getElem h,List.drop_eq_getElem_cons h⟩
theorem nG(b:Nat)(src:List UInt8)(i:Nat)(hi:i≤src.length)(hs:src.length≤1000000)(n e p:Int):FnO Tryz.prog 151 (fun _=>True) (j5 b src i n e p) [.d (.v (aT b 0))] (B7 b src (src.length-(aI false (src.drop i)).length) n e p []):=by
 obtain⟨R,hR⟩:∃ R,aI false (src.drop i)=R:=⟨_,rfl⟩
 rw[hR];refine FnO.of Tryz.func151 rfl (by kernel_rfl) Tryz.ntmps151 Tryz.results151 rfl rfl fun w0 S0 vs hS hv hKW=>⟨_,fun t v h=> .inl h,?_⟩
 refine wr ?_;refine AC.loop (X:=Nat) (fun j=>⟨[(0,.d (.v (aT b 0)))],[(164,tP b src j n e p)]⟩) (fun j=>j≤src.length∧aI false (src.drop j)=R) (fun j=>src.length-j) i ⟨hi,hR⟩ ⟨rfl,trivial⟩ ⟨rfl,trivial⟩ ?_;intro j ⟨hj,hgo⟩;dsimp only at hj hgo ⊢;refine wr ?_;((try (first | intro K ms hms hK | intro K hK));(first | apply Ch.go | apply Ch.ah);exact rfl;exact rfl;exact Loc.bF rfl rfl (by kernel_rfl));rw[aB];refine s1 (fun h1=>?_) (fun h1=>?_)
 ·obtain⟨c,hc,hd⟩:=qU (src:=src) (j:=j) (by omega);rw[hd]at hgo;have hcb:=UInt8.toNat_lt c;by_cases k1:c.toNat=32
  ·rw[lX (.inl k1)]at hgo;refine wr ?_;((try (first | intro K ms hms hK | intro K hK));(first | apply Ch.go | apply Ch.ah);exact rfl;exact rfl;exact Loc.bV (c:=c) j rfl rfl rfl rfl hc (by kernel_rfl));refine wr ?_;exact⟨j+1,⟨by omega,hgo⟩,by omega,⟨rfl,trivial⟩,⟨rfl,trivial⟩⟩
  by_cases k2:c.toNat=9
  ·rw[lX (.inr (.inl k2))]at hgo;refine wr ?_;((try (first | intro K ms hms hK | intro K hK));(first | apply Ch.go | apply Ch.ah);exact rfl;exact rfl;exact Loc.bV (c:=c) j rfl rfl rfl rfl hc (by kernel_rfl));refine wr ?_;exact⟨j+1,⟨by omega,hgo⟩,by omega,⟨rfl,trivial⟩,⟨rfl,trivial⟩⟩
  by_cases k3:c.toNat=10
  ·rw[lX (.inr (.inr (.inl k3)))]at hgo;refine wr ?_;((try (first | intro K ms hms hK | intro K hK));(first | apply Ch.go | apply Ch.ah);exact rfl;exact rfl;exact Loc.bV (c:=c) j rfl rfl rfl rfl hc (by kernel_rfl));refine wr ?_;exact⟨j+1,⟨by omega,hgo⟩,by omega,⟨rfl,trivial⟩,⟨rfl,trivial⟩⟩
  by_cases k4:c.toNat=13
  ·rw[lX (.inr (.inr (.inr k4)))]at hgo;refine wr ?_;((try (first | intro K ms hms hK | intro K hK));(first | apply Ch.go | apply Ch.ah);exact rfl;exact rfl;exact Loc.bV (c:=c) j rfl rfl rfl rfl hc (by kernel_rfl));refine wr ?_;exact⟨j+1,⟨by omega,hgo⟩,by omega,⟨rfl,trivial⟩,⟨rfl,trivial⟩⟩
  by_cases k5:c.toNat=59
  ·rw[AQ k5,←hd]at hgo;refine wr ?_;((try (first | intro K ms hms hK | intro K hK));(first | apply Ch.go | apply Ch.ah);exact rfl;exact rfl;exact Loc.bV (c:=c) j rfl rfl rfl rfl hc (by kernel_rfl));refine wr ?_;refine AC.loop (X:=Nat) (fun k=>⟨[(0,.d (.v (aT b 0)))],[(164,tP b src k n e p)]⟩) (fun k=>j≤k∧k≤src.length∧aI true (src.drop k)=R) (fun k=>src.length-k) j ⟨Nat.le_refl _,by omega,hgo⟩ ⟨rfl,trivial⟩ ⟨rfl,trivial⟩ ?_;intro k ⟨hk0,hk1,hgk⟩;dsimp only at hk0 hk1 hgk ⊢;refine wr ?_;((try (first | intro K ms hms hK | intro K hK));(first | apply Ch.go | apply Ch.ah);exact rfl;exact rfl;exact Loc.bF rfl rfl (by kernel_rfl));rw[aB];refine s1 (fun h2=>?_) (fun h2=>?_)
   ·obtain⟨c2,hc2,hd2⟩:=qU (src:=src) (j:=k) (by omega);rw[hd2]at hgk;have hcb2:=UInt8.toNat_lt c2;by_cases k6:c2.toNat=10
    ·rw[yh k6,←hd2]at hgk;have hkj:j<k:=by
      rcases Nat.lt_or_ge j k with h | h
      ·exact h
      ·have:k=j:=by omega
       subst this;rw[hc]at hc2;cases hc2;exact absurd k6 k3
     refine wr ?_;((try (first | intro K ms hms hK | intro K hK));(first | apply Ch.go | apply Ch.ah);exact rfl;exact rfl;exact Loc.bV (c:=c2) k rfl rfl rfl rfl hc2 (by kernel_rfl));refine wr ?_;exact⟨k,⟨hk1,hgk⟩,by omega,⟨rfl,trivial⟩,⟨rfl,trivial⟩⟩
    ·rw[yv k6]at hgk;refine wr ?_;((try (first | intro K ms hms hK | intro K hK));(first | apply Ch.go | apply Ch.ah);exact rfl;exact rfl;exact Loc.bV (c:=c2) k rfl rfl rfl rfl hc2 (by kernel_rfl));refine wr ?_;exact⟨k+1,⟨by omega,by omega,hgk⟩,by omega,⟨rfl,trivial⟩,⟨rfl,trivial⟩⟩
   ·have hnil:src.drop k=[]:=List.drop_of_length_le (by omega);have hgk2:aI false (src.drop k)=R:=by rw[←hgk,hnil];rfl
    refine wr ?_;exact⟨k,⟨hk1,hgk2⟩,by omega,⟨rfl,trivial⟩,⟨rfl,trivial⟩⟩
  ·rw[zY k1 k2 k3 k4 k5,←hd]at hgo;have hpos:src.length-R.length=j:=by rw[←hgo,List.length_drop];omega
   refine wr ?_;((try (first | intro K ms hms hK | intro K hK));(first | apply Ch.go | apply Ch.ah);exact rfl;exact rfl;exact Loc.bV (c:=c) j rfl rfl rfl rfl hc (by kernel_rfl));refine wr ?_;rw[hpos];exact qe rfl trivial
 ·have hnil:src.drop j=[]:=List.drop_of_length_le (by omega);rw[hnil]at hgo;have hpos:src.length-R.length=j:=by
   rw[←hgo];show src.length-0=j;omega
  refine wr ?_;rw[hpos];exact qe rfl trivial
