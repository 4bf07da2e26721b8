import Derived.Test.YthdkkpocihkgbaaGreatDoorNuB
import Derived.Test.YthdkkpocihkgbaaGreatDoorLin
namespace Go.Proofs.YthdkkpocihkgbaaGreatDoor
open Go.RowKit
attribute [local irreducible] AC Do St
theorem canL_cons(t:Tm)(l:List Tm):canL (t::l)=insC t (canL l):=by
 obtain⟨h1,h2,_⟩:=canL_spec l;obtain⟨q1,q2⟩:=insC_form (t:=t) h1;exact canL_eq q1 fun v=>by rw[q2,coef,coef,h2]
theorem tb_insC(t:Tm):∀ l:List Tm,tb (insC t l)≤bz t.2+1+tb l
 | []=>by unfold insC;split<;>simp[tb]
 | u::l=>by
   have ih:=tb_insC t l;have hb:=bz_add t.2 u.2;unfold insC
   repeat' split
   all_goals simp only[tb]
   all_goals omega
theorem tb_canL(l:List Tm):tb (canL l)≤tb l:=by
 induction l with
 | nil=>rw[canL_eq (o:=[]) ⟨.nil,by simp⟩ fun _=>rfl];exact Nat.le_refl _
 | cons t l ih=>
   rw[canL_cons];have:=tb_insC t (canL l);simp only[tb];omega
theorem tb_mulT(r:Rat):∀ l:List Tm,tb (l.map (mulT r))≤tb l+l.length*bz r
 | []=>by simp[tb]
 | t::l=>by
   have ih:=tb_mulT r l;have hb:=bz_mul r t.2;simp only[List.map_cons,tb,List.length_cons,Nat.succ_mul];show bz (r*t.2)+1+_≤_;omega
theorem addE_tb(a b:Ex):tb (addE a b).t≤tb a.t+tb b.t∧(addE a b).t.length≤a.t.length+b.t.length∧bz (addE a b).c≤bz a.c+bz b.c+1:=by
 have h1:=tb_canL (a.t++b.t);have h2:=(canL_spec (a.t++b.t)).2.2;rw[tb_app]at h1;rw[List.length_append]at h2;exact⟨h1,h2,bz_add _ _⟩
theorem scaleE_tb(r:Rat)(e:Ex):tb (scaleE r e).t≤tb e.t+e.t.length*bz r∧(scaleE r e).t.length≤e.t.length∧bz (scaleE r e).c≤bz r+bz e.c:=by
 have h1:=tb_canL (e.t.map (mulT r));have h2:=(canL_spec (e.t.map (mulT r))).2.2;have h3:=tb_mulT r e.t;rw[List.length_map]at h2;exact⟨Nat.le_trans h1 h3,h2,bz_mul _ _⟩
theorem bz_m1:bz (-1:Rat)=1:=Nat.le_antisymm (bz_le ⟨by decide,by decide⟩) (bz_pos _)
theorem bz_1:bz (1:Rat)=1:=Nat.le_antisymm (bz_le ⟨by decide,by decide⟩) (bz_pos _)
theorem bz_0:bz (0:Rat)=1:=Nat.le_antisymm (bz_le ⟨by decide,by decide⟩) (bz_pos _)
theorem subE_tb(a b:Ex):tb (subE a b).t≤tb a.t+tb b.t+b.t.length∧(subE a b).t.length≤a.t.length+b.t.length∧bz (subE a b).c≤bz a.c+bz b.c+2:=by
 obtain⟨h1,h2,h3⟩:=scaleE_tb (-1) b;obtain⟨h4,h5,h6⟩:=addE_tb a (scaleE (-1) b);rw[bz_m1]at h1 h3;unfold subE;exact⟨by omega,by omega,by omega⟩
mutual
def wX:ST→Nat
 | .mk _ w l=>w.length+1+wXs l
def wXs:List ST→Nat
 | []=>0
 | s::r=>wX s+wXs r
end
mutual
def cX:ST→Nat
 | .mk _ _ l=>1+cXs l
def cXs:List ST→Nat
 | []=>0
 | s::r=>cX s+cXs r
end
theorem wX_mk(b:Bool)(w:List UInt8)(l:List ST):wX (.mk b w l)=w.length+1+wXs l:=by rw[wX]
theorem cX_mk(b:Bool)(w:List UInt8)(l:List ST):cX (.mk b w l)=1+cXs l:=by rw[cX]
theorem wXs_cons(s:ST)(r:List ST):wXs (s::r)=wX s+wXs r:=by rw[wXs]
theorem cXs_cons(s:ST)(r:List ST):cXs (s::r)=cX s+cXs r:=by rw[cXs]
theorem wXs_nil:wXs []=0:=by rw[wXs]
theorem cXs_nil:cXs []=0:=by rw[cXs]
mutual
theorem cX_w:∀ s:ST,cX s≤wX s
 | .mk b w l=>by have:=cXs_w l;rw[cX_mk,wX_mk];omega
theorem cXs_w:∀ l:List ST,cXs l≤wXs l
 | []=>by rw[cXs_nil];exact Nat.zero_le _
 | s::r=>by have:=cX_w s;have:=cXs_w r;rw[cXs_cons,wXs_cons];omega
end
theorem wXs_mem:∀ {l:List ST} {s:ST},s∈l→wX s≤wXs l∧cX s≤cXs l
 | [],s,h=>nomatch h
 | x::r,s,h=>by
   rw[wXs_cons,cXs_cons];rcases List.mem_cons.1 h with rfl | h
   ·omega
   ·have:=wXs_mem h;omega
theorem wX_pos(s:ST):1≤wX s:=by obtain⟨b,w,l⟩:=s;rw[wX_mk];omega
theorem cX_pos(s:ST):1≤cX s:=by obtain⟨b,w,l⟩:=s;rw[cX_mk];omega
theorem cXs_len:∀ l:List ST,l.length≤cXs l
 | []=>Nat.zero_le _
 | s::r=>by have:=cXs_len r;have:=cX_pos s;rw[cXs_cons,List.length_cons];omega
theorem wX_word(s:ST):s.w.length<wX s:=by obtain⟨b,w,l⟩:=s;rw[wX_mk];show w.length<_;omega
def kX(s:ST):Nat:=cX s*(4*wX s+8)
theorem kX_mem{b:Bool}{w:List UInt8}{l:List ST}{s:ST}(h:s∈l):kX s≤kX (.mk b w l):=by
 have h1:=wXs_mem h;unfold kX;rw[cX_mk,wX_mk];exact Nat.mul_le_mul (by omega) (by omega)
def varV(i:Int)(w:List UInt8):Int×Bool:=match w with
 | []=>(0,false)
 | c::t=>if t.length<1∨6<t.length∨(c.toNat≠120∧c.toNat≠121)∨(t.head?=some 48∧1<t.length)then(0,false)
   else if ∀x∈t,DigC x then(if c.toNat=121 then(IntKind.i64.wrap (i+(valF 0 t:Int)),true)else((valF 0 t:Int),decide ((valF 0 t:Int)<i)))else(0,false)
noncomputable def addAll (vs:List (Ex×Bool)):Ex×Bool:=vs.foldl (fun s x=>(addE s.1 x.1,s.2&&x.2)) (⟨[],0⟩,true)
def numX(s:ST):Rat×Bool:=(((parseR s.w).getD 0),s.b&&(parseR s.w).isSome)
noncomputable def negV:List (Ex×Bool)→Ex×Bool
 | []=>(⟨[],0⟩,false)
 | [x]=>(scaleE (-1) x.1,x.2)
 | [x,y]=>(subE x.1 y.1,x.2&&y.2)
 | _::_::_::_=>(⟨[],0⟩,false)
noncomputable def mulW (n:ST):List (Ex×Bool)→Ex×Bool
 | []=>(⟨[],0⟩,false)
 | [_]=>(⟨[],0⟩,false)
 | [_,y]=>(scaleE (numX n).1 y.1,(numX n).2&&y.2)
 | _::_::_::_=>(⟨[],0⟩,false)
noncomputable def mulV:List ST→List (Ex×Bool)→Ex×Bool
 | [],_=>(⟨[],0⟩,false)
 | [_],_=>(⟨[],0⟩,false)
 | [n,_],vs=>mulW n vs
 | _::_::_::_,_=>(⟨[],0⟩,false)
noncomputable def lstV (hw:List UInt8)(t:List ST)(vs:List (Ex×Bool)):Ex×Bool:=
 if hw=[43]then addAll vs else if hw=[45]then negV vs else if hw=[42]then mulV t vs else(⟨[],0⟩,false)
noncomputable def combX:List ST→List (Ex×Bool)→Ex×Bool
 | [],_=>(⟨[],0⟩,false)
 | _::_,[]=>(⟨[],0⟩,false)
 | h::t,_::vs=>if h.b=true then lstV h.w t vs else(⟨[],0⟩,false)
noncomputable def leafX (i:Int)(w:List UInt8):Ex×Bool:=if (varV i w).2=true then(⟨[((varV i w).1,1)],0⟩,true)else(⟨[],(parseR w).getD 0⟩,(parseR w).isSome)
mutual
noncomputable def sumX (i:Int):ST→Ex×Bool
 | .mk b w l=>if b=true then leafX i w else combX l (sumXs i l)
noncomputable def sumXs (i:Int):List ST→List (Ex×Bool)
 | []=>[]
 | s::r=>sumX i s::sumXs i r
end
theorem sumX_mk(i:Int)(b:Bool)(w:List UInt8)(l:List ST):sumX i (.mk b w l)=if b=true then leafX i w else combX l (sumXs i l):=by rw[sumX]
theorem sumXs_map(i:Int):∀ l:List ST,sumXs i l=l.map (sumX i)
 | []=>by rw[sumXs];rfl
 | s::r=>by rw[sumXs,sumXs_map i r];rfl
def exB(n k:Nat)(e:Ex):Prop:=tb e.t≤k∧e.t.length≤n∧bz e.c≤k
theorem addAll_bd:∀ (vs:List (Ex×Bool)) (l:List ST) (s:Ex×Bool) (N W K:Nat),vs.length=l.length→(∀j (h:j<vs.length) (h':j<l.length),exB (cX l[j]) (kX l[j]) vs[j].1)→tb s.1.t≤K→s.1.t.length≤N→bz s.1.c≤K→wXs l≤W→
  exB (N+cXs l) (K+cXs l*(4*W+9)) (vs.foldl (fun s x=>(addE s.1 x.1,s.2&&x.2)) s).1
 | [],l,s,N,W,K,hl,_,h1,h2,h3,_=>by
   obtain rfl:l=[]:=List.eq_nil_of_length_eq_zero (by simpa using hl.symm);rw[cXs_nil];exact⟨by simpa using h1,by simpa using h2,by simpa using h3⟩
 | v::vs,[],s,N,W,K,hl,_,_,_,_,_=>by simp at hl
 | v::vs,x::l,s,N,W,K,hl,hv,h1,h2,h3,hW=>by
   obtain⟨q1,q2,q3⟩:=addE_tb s.1 v.1;obtain⟨p1,p2,p3⟩:=hv 0 (by simp) (by simp);rw[wXs_cons]at hW;have hk:kX x≤cX x*(4*W+8):=Nat.mul_le_mul_left _ (by omega);have hk2:cX x*(4*W+9)=cX x*(4*W+8)+cX x:=Nat.mul_succ ..;have hp:=cX_pos x;simp only[List.getElem_cons_zero]at p1 p2 p3;have:=addAll_bd vs l (addE s.1 v.1,s.2&&v.2) (N+cX x) W (K+cX x*(4*W+9)) (by simpa using hl) (fun j h h'=>hv (j+1) (by simpa using h) (by simpa using h')) (by dsimp only;omega) (by dsimp only;omega) (by dsimp only;omega) (by omega);rw[List.foldl_cons,cXs_cons,Nat.add_mul];unfold exB at this ⊢;rw[←Nat.add_assoc,←Nat.add_assoc];exact this
theorem exB.mono{n k n' k':Nat}{e:Ex}(h:exB n k e)(hn:n≤n')(hk:k≤k'):exB n' k' e:=⟨Nat.le_trans h.1 hk,Nat.le_trans h.2.1 hn,Nat.le_trans h.2.2 hk⟩
theorem getD_bz(w:List UInt8):bz ((parseR w).getD 0)≤4*w.length+4:=by
 cases hp:parseR w with
 | none=>rw[Option.getD_none,bz_0];omega
 | some q=>exact bz_le (parseR_bd (Nat.le_refl _) hp)
theorem sumX_bd(i:Int):∀ (n:Nat) (s:ST),wX s<n→exB (cX s) (kX s) (sumX i s).1:=by
 intro n
 induction n with
 | zero=>intro s h;omega
 | succ n ih=>
 intro s hs;obtain⟨b,w,l⟩:=s;rw[sumX_mk];have hq:=getD_bz w;rw[wX_mk]at hs;have hK:kX (.mk b w l)=(1+cXs l)*(4*(w.length+1+wXs l)+8):=by unfold kX;rw[cX_mk,wX_mk]
 have hK0:4*(w.length+1+wXs l)+8≤kX (.mk b w l):=by rw[hK];exact Nat.le_mul_of_pos_left _ (by omega)
 have hbad:exB (cX (.mk b w l)) (kX (.mk b w l)) (⟨[],0⟩:Ex):=⟨by simp[tb],by simp,by rw[show (⟨[],0⟩:Ex).c=0 from rfl,bz_0];omega⟩
 by_cases hb:b=true
 ·rw[if_pos hb];unfold leafX;split
  ·exact⟨by simp only[tb,bz_1];omega,by rw[cX_mk];simp,by rw[show (⟨[((varV i w).1,1)],0⟩:Ex).c=0 from rfl,bz_0];omega⟩
  ·exact⟨by simp[tb],by simp,by dsimp only;omega⟩
 rw[if_neg hb,sumXs_map];have ih':∀ x∈l,exB (cX x) (kX x) (sumX i x).1:=fun x hx=>ih x (by have:=(wXs_mem hx).1;omega);cases l with
 | nil=>exact hbad
 | cons h t=>
 rw[wXs_cons,cXs_cons]at hK;rw[List.map_cons,combX];have hwp:=wX_pos h;split
 ·unfold lstV;split
  ·refine(addAll_bd (t.map (sumX i)) t (⟨[],0⟩,true) 0 (wXs t) 1 (by simp) (fun j h1 h2=>?_) (by simp[tb]) (by simp) (by rw[show (⟨[],0⟩:Ex).c=0 from rfl,bz_0];omega) (Nat.le_refl _)).mono ?_ ?_
   ·rw[List.getElem_map];exact ih' _ (List.mem_cons_of_mem _ (List.getElem_mem h2))
   ·rw[cX_mk,cXs_cons];omega
   ·rw[hK];have e1:(1+cXs t)*(4*wXs t+9)=4*wXs t+9+cXs t*(4*wXs t+9):=by rw[Nat.add_mul,Nat.one_mul]
    have e2:(1+cXs t)*(4*wXs t+9)≤(1+(cX h+cXs t))*(4*(w.length+1+(wX h+wXs t))+8):=Nat.mul_le_mul (by omega) (by omega);omega
  ·split
   ·match t,ih',hK with
    | [],_,_=>exact hbad
    | [x],ih',hK=>
      rw[wXs_cons,wXs_nil,cXs_cons,cXs_nil]at hK;obtain⟨p1,p2,p3⟩:=ih' x (by simp);obtain⟨q1,q2,q3⟩:=scaleE_tb (-1) (sumX i x).1;rw[bz_m1]at q1 q3;have e1:cX x*(4*wX x+9)=kX x+cX x:=Nat.mul_succ ..;have e2:(cX x+1)*(4*wX x+9)≤kX (.mk b w [h,x]):=by rw[hK];exact Nat.mul_le_mul (by omega) (by omega)
      have e3:(cX x+1)*(4*wX x+9)=cX x*(4*wX x+9)+(4*wX x+9):=Nat.succ_mul ..;show exB _ _ (scaleE (-1) (sumX i x).1);exact⟨by omega,by rw[cX_mk,cXs_cons,cXs_cons];omega,by omega⟩
    | [x,y],ih',hK=>
      rw[wXs_cons,wXs_cons,wXs_nil,cXs_cons,cXs_cons,cXs_nil]at hK;obtain⟨p1,p2,p3⟩:=ih' x (by simp);obtain⟨r1,r2,r3⟩:=ih' y (by simp);obtain⟨q1,q2,q3⟩:=subE_tb (sumX i x).1 (sumX i y).1;have e1:cX y*(4*wX y+9)=kX y+cX y:=Nat.mul_succ ..;have e2:(cX x+cX y+1)*(4*(wX x+wX y)+9)≤kX (.mk b w [h,x,y]):=by rw[hK];exact Nat.mul_le_mul (by omega) (by omega)
      have e3:(cX x+cX y+1)*(4*(wX x+wX y)+9)=cX x*(4*(wX x+wX y)+9)+cX y*(4*(wX x+wX y)+9)+(4*(wX x+wX y)+9):=by rw[Nat.add_mul,Nat.add_mul,Nat.one_mul]
      have e4:kX x≤cX x*(4*(wX x+wX y)+9):=Nat.mul_le_mul_left _ (by omega);have e5:cX y*(4*wX y+9)≤cX y*(4*(wX x+wX y)+9):=Nat.mul_le_mul_left _ (by omega);show exB _ _ (subE (sumX i x).1 (sumX i y).1);exact⟨by omega,by rw[cX_mk,cXs_cons,cXs_cons,cXs_cons];omega,by omega⟩
    | _::_::_::_,_,_=>exact hbad
   ·split
    ·match t,ih',hK with
     | [],_,_=>exact hbad
     | [x],_,_=>exact hbad
     | [x,y],ih',hK=>
       rw[wXs_cons,wXs_cons,wXs_nil,cXs_cons,cXs_cons,cXs_nil]at hK;obtain⟨r1,r2,r3⟩:=ih' y (by simp);obtain⟨q1,q2,q3⟩:=scaleE_tb (numX x).1 (sumX i y).1;have hn:bz (numX x).1≤4*x.w.length+4:=getD_bz x.w;have hx:=wX_word x;have hxc:=cX_pos x;have e0:(sumX i y).1.t.length*bz (numX x).1≤cX y*(4*x.w.length+4):=Nat.mul_le_mul r2 hn;have e1:cX y*(4*wX y+8)+cX y*(4*x.w.length+4)=cX y*(4*wX y+8+(4*x.w.length+4)):=(Nat.mul_add ..).symm;have e2:(cX y+1)*(4*wX y+8+(4*x.w.length+4))≤kX (.mk b w [h,x,y]):=by rw[hK];exact Nat.mul_le_mul (by omega) (by omega)
       have e3:(cX y+1)*(4*wX y+8+(4*x.w.length+4))=cX y*(4*wX y+8+(4*x.w.length+4))+(4*wX y+8+(4*x.w.length+4)):=Nat.succ_mul ..;have e4:kX y=cX y*(4*wX y+8):=rfl;show exB _ _ (scaleE (numX x).1 (sumX i y).1);exact⟨by omega,by rw[cX_mk,cXs_cons,cXs_cons,cXs_cons];omega,by omega⟩
     | _::_::_::_,_,_=>exact hbad
    ·exact hbad
 ·exact hbad
def kindX(w:List UInt8):Int:=if w=[110,111,116]then 2 else if w=[97,110,100]then 3 else if w=[111,114]then 4 else 0
def opX(w:List UInt8):Int:=if w=[60,61]∨w=[62,61]then 1 else if w=[60]∨w=[62]then 2 else if w=[61]then 3 else 0
noncomputable def cmpX (i:Int)(w:List UInt8):List ST→Option (At×Bool)
 | [x,y]=>if opX w=0 then none else some (⟨if w.head?=some 62 then subE (sumX i y).1 (sumX i x).1 else subE (sumX i x).1 (sumX i y).1,opX w⟩,(sumX i x).2&&(sumX i y).2)
 | _=>none
def cmpG(n:Nat):Option (At×Bool)→FT×List At×Bool
 | some a=>(.mk 1 n [],[a.1],a.2)
 | none=>(.mk 0 0 [],[],false)
mutual
noncomputable def fmX (i:Int):ST→Nat→FT×List At×Bool
 | .mk true w _,_=>if w=[116,114,117,101]then(.mk 5 0 [],[],true)else if w=[102,97,108,115,101]then(.mk 6 0 [],[],true)else(.mk 0 0 [],[],false)
 | .mk false _ [],_=>(.mk 0 0 [],[],false)
 | .mk false _ (h::t),n=>
   if h.b=true then
    if kindX h.w≠0 then
     (.mk (kindX h.w) 0 (fmXs i t n).1,(fmXs i t n).2.1,(fmXs i t n).2.2&&!(decide (kindX h.w=2)&&!decide (t.length=1)))
    else cmpG n (cmpX i h.w t)
   else(.mk 0 0 [],[],false)
noncomputable def fmXs (i:Int):List ST→Nat→List FT×List At×Bool
 | [],_=>([],[],true)
 | s::r,n=>((fmX i s n).1::(fmXs i r (n+(fmX i s n).2.1.length)).1,(fmX i s n).2.1++(fmXs i r (n+(fmX i s n).2.1.length)).2.1,(fmX i s n).2.2&&(fmXs i r (n+(fmX i s n).2.1.length)).2.2)
end
end Go.Proofs.YthdkkpocihkgbaaGreatDoor
