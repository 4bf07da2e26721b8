import Derived.Test.YthdkkpocihkgbaaGreatDoorPrW
set_option maxRecDepth 100000
set_option maxHeartbeats 16000000
namespace Go.Proofs.YthdkkpocihkgbaaGreatDoor
open Go.RowKit
section
variable {P:Program}{C:Cx}{o:Oper}{σ:AS}
theorem Ch.oT{ops:Array Oper}{fin:List Inf→Prop}{K:AS→Prop}{rest:List Oper}(id:Nat){x:Value}{R:ej}(R':ej)(hO:af σ.objs id=some (.own x R))(hR:∀ S w,R S w→R' S w)(hst:eT x R')(h:Ch P C ops fin K none rest ⟨σ.env,(id,.own x R')::σ.objs⟩):Ch P C ops fin K none rest σ:=
 .weak _ (fun a w ⟨β,hi⟩=>by
  obtain⟨hx,h1,_⟩:=hi.obj id _ hO;have h2:=hi.rv id _ hO R' (hR _ _ h1) (by rw[hx];exact hst);rw[hx]at h2;exact⟨β,h2⟩) h
end
attribute [local irreducible] AC Do St
theorem mw:∀ (f d:Nat) (s:List UInt8) (n:Int),match ay f d s n with
  | .ok out _ m=>m=n+aK out
  | .bad _ _=>True
 | 0,d,s,n=>trivial
 | f+1,d,s,n=>by
   rw[ay];cases aI false s with
   | nil=>
     dsimp only;by_cases k0:0<d
     ·rw[if_pos k0];trivial
     ·rw[if_neg k0];show n=n+(aK []:Nat);rw[bd];simp
   | cons c r=>
     dsimp only;by_cases k1:c.toNat=41
     ·rw[if_pos k1];by_cases k2:d=0
      ·rw[if_pos k2];trivial
      ·rw[if_neg k2];show n=n+(aK []:Nat);rw[bd];simp
     rw[if_neg k1];by_cases k3:100000<n+1∨(c.toNat=40∧d=200)
     ·rw[if_pos k3];trivial
     rw[if_neg k3];by_cases k4:c.toNat=40
     ·rw[if_pos k4];have h2:=mw f (d+1) r (n+1);cases hX:ay f (d+1) r (n+1)with
      | bad e left=>trivial
      | ok sub r2 n2=>
        rw[hX]at h2;have h2:n2=n+1+aK sub:=h2;have h3:=mw f d r2 n2;show match PX.cons (.mk false [] sub) (ay f d r2 n2)with
         | .ok out _ m=>m=n+aK out
         | .bad _ _=>True
        cases hY:ay f d r2 n2 with
        | bad e left=>trivial
        | ok out r3 n3=>
          rw[hY]at h3;have h3:n3=n2+aK out:=h3;show n3=n+(aK (ST.mk false [] sub::out):Nat);rw[aj,aY];omega
     rw[if_neg k4];by_cases k5:au c=true
     ·rw[if_pos k5];have h3:=mw f d ((c::r).dropWhile au) (n+1);cases hY:ay f d ((c::r).dropWhile au) (n+1)with
      | bad e left=>trivial
      | ok out r3 n3=>
        rw[hY]at h3;have h3:n3=n+1+aK out:=h3;show n3=n+(aK (ST.mk true _ []::out):Nat);rw[aj,aY,bd];omega
     ·rw[if_neg k5];trivial
theorem zr(i:Int)(N K:Nat)(l:List ST)(hl:∀ x∈l,∀n,∀a∈(aE i x n).2.1,exB N K a.e):∀ n,∀a∈(az i l n).2.1,exB N K a.e:=by
 induction l with
 | nil=>intro n a ha;rw[bK]at ha;cases ha
 | cons x r ih=>
   intro n a ha;rw[eh]at ha;rcases List.mem_append.1 ha with h | h
   ·exact hl x (by simp) n a h
   ·exact ih (fun y hy=>hl y (by simp[hy])) _ a h
theorem vV{i:Int}{w:List UInt8}{x y:ST}{a:At×Bool}(h:dY i w [x,y]=some a):a.1.op=dh w∧dh w≠0∧a.2=((ak i x).2&&(ak i y).2)∧(a.1.e=cH (ak i x).1 (ak i y).1∨a.1.e=cH (ak i y).1 (ak i x).1):=by
 by_cases ho:dh w=0
 ·rw[show dY i w [x,y]=none from if_pos ho]at h;cases h
 ·rw[show dY i w [x,y]=some _ from if_neg ho]at h;cases h;refine⟨rfl,ho,rfl,?_⟩;dsimp only;split
  ·exact .inr rfl
  ·exact .inl rfl
theorem xQ(i:Int):∀ (m:Nat) (s:ST),wX s<m→∀ n,∀a∈(aE i s n).2.1,exB (cX s) (kX s+2) a.e:=by
 intro m
 induction m with
 | zero=>intro s h;omega
 | succ m ih=>
 intro s hs n a ha;obtain⟨b,w,l⟩:=s;rw[bt]at hs;cases b with
 | true=>
   rw[mI]at ha;split at ha
   ·cases ha
   ·split at ha<;>cases ha
 | false=>
   cases l with
   | nil=>rw[mA]at ha;cases ha
   | cons h t=>
     rw[ll]at ha;split at ha
     ·split at ha
      ·refine zr i _ _ t (fun x hx n a ha=>?_) n a ha;have hx':=List.mem_cons_of_mem h hx;refine(ih x (by have:=(aO hx').1;omega) n a ha).mono ?_ ?_
       ·rw[aY];have:=(aO hx').2;omega
       ·have:=nX (b:=false) (w:=w) hx';omega
      ·match t,ha with
       | [],ha=>cases ha
       | [_],ha=>cases ha
       | [x,y],ha=>
         cases hc:dY i h.w [x,y]with
         | none=>rw[hc]at ha;cases ha
         | some c=>
           rw[hc]at ha;obtain rfl:=List.mem_singleton.1 ha;obtain⟨_,_,_,h4⟩:=vV hc;obtain⟨p1,p2,p3⟩:=kB i _ x (Nat.lt_succ_self _);obtain⟨q1,q2,q3⟩:=kB i _ y (Nat.lt_succ_self _);have hk:=(ue (w:=w) (l:=[h,x,y]) rfl).1;have hcx:cX x+cX y≤cX (.mk false w [h,x,y]):=by rw[aY,aj,aj,aj];omega
           obtain⟨r1,r2,r3⟩:=qQ (ak i x).1 (ak i y).1;obtain⟨s1',s2',s3'⟩:=qQ (ak i y).1 (ak i x).1;rcases h4 with h4 | h4
           ·rw[h4];exact⟨by omega,by omega,by omega⟩
           ·rw[h4];exact⟨by omega,by omega,by omega⟩
       | _::_::_::_,ha=>cases ha
     ·cases ha
theorem tB:∀ {s:List FT},(∀g∈s,dG g)→mB s
 | [],_=>by rw[mB];trivial
 | f::r,h=>by rw[mB];exact⟨h f (by simp),tB fun g hg=>h g (by simp[hg])⟩
theorem y0(i:Int)(l:List ST)(hl:∀ x∈l,∀n,dG (aE i x n).1):∀ n,∀g∈(az i l n).1,dG g:=by
 induction l with
 | nil=>intro n g hg;rw[bK]at hg;cases hg
 | cons x r ih=>
   intro n g hg;rw[eh]at hg;rcases List.mem_cons.1 hg with h | h
   ·rw[h];exact hl x (by simp) n
   ·exact ih (fun y hy=>hl y (by simp[hy])) _ g h
theorem vB(i:Int):∀ (m:Nat) (s:ST),wX s<m→wX s≤9000000000000000000→∀ n,dG (aE i s n).1:=by
 intro m
 induction m with
 | zero=>intro s h;omega
 | succ m ih=>
 intro s hs hb n;have okn:∀ k a:Int,dG (.mk k a []):=fun k a=>by rw[dG,mB];exact⟨by simp,trivial⟩
 obtain⟨b,w,l⟩:=s;rw[bt]at hs hb;cases b with
 | true=>
   rw[mI];split
   ·exact okn _ _
   ·split<;>exact okn _ _
 | false=>
   cases l with
   | nil=>rw[mA];exact okn _ _
   | cons h t=>
     rw[ll];split
     ·split
      ·dsimp only;rw[dG];have h1:=cj t;have h2:=sx t;rw[aA]at hs hb;exact⟨by rw[jm];omega,tB (y0 i t (fun x hx n=>ih x (by have:=(aO hx).1;omega) (by have:=(aO hx).1;omega) n) n)⟩
      ·cases dY i h.w t with
       | none=>exact okn _ _
       | some a=>exact okn _ _
     ·exact okn _ _
def gJ(x:ST):Bool:=!x.b&&decide (x.l.length=2)
def bZ(x:ST):(Rat×Rat)×Bool:=match x.l with
 | [a,c]=>(((aZ a).1,(aZ c).1),(aZ a).2&&(aZ c).2)
 | _=>((0,0),false)
def dS(t:List ST):Bool:=t.all fun x=>(bZ x).2
noncomputable def dv (i:Int)(l:List ST):Option PP:=match l with
 | [a,c]=>if (aG a).1=[98,111,120]∧(aG c).1=[98,97,100]∧(aG a).2.all gJ=true then
    (match (aG c).2 with
      | [f]=>if (dS (aG a).2&&(aE i f 0).2.2)=true then some ⟨(aG a).2.map fun x=>(bZ x).1,(aE i f 0).2.1,(aE i f 0).1⟩else none
      | _=>none)else none
 | _=>none
def zeroPP:PP:=⟨[],[],.mk 0 0 []⟩
def j9(e:Int):List DV:=[.g (fi zeroPP),.d (.v (.int .i64 e))]
def gj(p:PP)(i o:Int):Int:=dJ (dD p.bad p.ats.length) p.box p.ats i o
def uN(i o:Int):Option PP→List DV
 | none=>j9 5
 | some p=>if gj p i o=0 then [.g (fi p),.d (.v (.int .i64 0))]else j9 (gj p i o)
noncomputable def jN (src:List UInt8)(i o:Int):List DV:=if 1000000<src.length then j9 2 else match ay (src.length+1) 0 src 0 with
 | .bad e _=>j9 e
 | .ok l _ _=>uN i o (dv i l)
end Go.Proofs.YthdkkpocihkgbaaGreatDoor
namespace Go.Proofs.YthdkkpocihkgbaaGreatDoor
open Go.RowKit
attribute [local irreducible] AC Do St
theorem wy{p q:Prop}(k:q)(hs:Wk q→p:=by
  intro k
  try (first | intro K ms hms hK | intro K hK)
  repeat (first
   | refine Ch.no rfl rfl ?_
   | refine Ch.iX rfl rfl ?_
   | ((first | apply Ch.go | apply Ch.ah);exact rfl;exact rfl;first
     | exact Loc.move (v:= .d _) rfl rfl
     | exact Loc.assign (v:= .d _) rfl rfl
     | exact Loc.xr rfl rfl
     | exact Loc.oy rfl rfl
     | exact Loc.u7 rfl rfl
     | exact Loc.eC (id:=36) rfl rfl rfl rfl
     | exact Loc.c7 rfl rfl rfl rfl
     | exact Loc.cU rfl rfl rfl
     | exact Loc.cY rfl rfl rfl
     | exact Loc.cV rfl rfl
     | exact Loc.bh (v:= .d _) rfl rfl rfl
     | exact Loc.bk (v:= .d _) rfl rfl rfl
     | exact Loc.cz rfl rfl rfl rfl (by kernel_rfl)
     | exact Loc.cZ rfl rfl rfl
     | exact Loc.cQ rfl rfl rfl rfl
     | exact Loc.ea rfl rfl rfl rfl (by assumption) rfl
     | exact Loc.fN rfl rfl
     | exact Loc.fP rfl rfl
     | exact Loc.fM rfl rfl rfl
     | exact Loc.len rfl rfl
     | exact Loc.eb rfl rfl rfl (by omega)
     | exact Loc.eG rfl rfl rfl (by omega)
     | exact Loc.ec rfl rfl rfl (by omega)
     | exact Loc.eE rfl rfl rfl (by omega)
     | exact Loc.eP rfl rfl rfl (by omega)
     | exact Loc.eM rfl rfl rfl (by omega)
     | exact Loc.eD rfl rfl rfl (by omega)
     | exact Loc.eF rfl rfl rfl (by omega)
     | exact Loc.add rfl rfl rfl (IntWalk.i64_in _ (by omega))
     | exact Loc.sub rfl rfl rfl (IntWalk.i64_in _ (by omega))
     | exact Loc.fL rfl rfl
     | exact Loc.fJ rfl rfl
     | exact Loc.cW rfl rfl rfl
     | exact Loc.c8 rfl rfl rfl (by assumption) rfl
     | exact Loc.cB rfl rfl rfl rfl rfl (by omega) rfl
     | exact Loc.move (v:= .g _) rfl rfl
     | exact Loc.move (v:= .p _ _) rfl rfl
     | exact Loc.move (v:= .r _ _) rfl rfl
     | exact Loc.move (v:= .t _) rfl rfl
     | exact Loc.assign (v:= .g _) rfl rfl
     | exact Loc.assign (v:= .r _ _) rfl rfl
     | exact Loc.assign (v:= .p _ _) rfl rfl
     | exact Loc.extract (v:= .d _) rfl rfl rfl rfl
     | exact Loc.extract (v:= .g _) rfl rfl rfl rfl
     | exact Loc.bh (v:= .g _) rfl rfl rfl
     | exact Loc.bk (v:= .g _) rfl rfl rfl
     | exact Loc.move (v:= .un) rfl rfl
     | exact Loc.build rfl rfl rfl rfl
     | exact Loc.df rfl rfl rfl rfl rfl rfl rfl
     | exact Loc.sub rfl rfl rfl (mu (by omega) (by omega))
     | exact Loc.mul rfl rfl rfl (IntWalk.i64_in _ (by omega))
     | exact Loc.sub rfl rfl rfl (AH (by omega) (by omega))
     | exact Loc.conv rfl rfl (IntWalk.i64_in _ (by omega))
     | exact Loc.oV rfl rfl (by kernel_rfl)
     | exact Loc.qI rfl rfl rfl rfl (by assumption) (by kernel_rfl)
     | exact Loc.qE rfl rfl rfl (by first | assumption | exact rfl)
     | exact Loc.qD rfl rfl rfl (by first | assumption | decide)
     | exact Loc.qH rfl rfl rfl (by first | assumption | decide)
     | exact Loc.qF rfl rfl rfl (by first | assumption | exact rfl)
     | exact Loc.AP rfl rfl rfl (by kernel_rfl) rfl
     | exact Loc.AL rfl rfl rfl (by kernel_rfl) rfl
     | (focus (refine Loc.eI (by assumption) rfl ?_;(repeat (first | exact trivial | refine⟨.inl rfl,?_⟩ | refine⟨.inr rfl,?_⟩));done))
     | (focus (refine Loc.jh (by assumption) rfl ?_;(repeat (first | exact trivial | refine⟨.inl rfl,?_⟩ | refine⟨.inr rfl,?_⟩));done))
     | (focus (refine Loc.mU (by assumption) rfl ?_;(repeat (first | exact trivial | refine⟨.inl rfl,?_⟩ | refine⟨.inr rfl,?_⟩));done))
     | (focus (refine Loc.ot (by assumption) rfl ?_ (gm KSt.st (by assumption) rfl);(repeat (first | exact trivial | refine⟨.inl rfl,?_⟩ | refine⟨.inr rfl,?_⟩));done))
     | (focus (refine Loc.oz (by assumption) rfl ?_ (gm KSt.st (by assumption) rfl);(repeat (first | exact trivial | refine⟨.inl rfl,?_⟩ | refine⟨.inr rfl,?_⟩));done))
     | (focus (refine Loc.lf (by assumption) rfl ?_ (gm KSt.st (by assumption) rfl);(repeat (first | exact trivial | refine⟨.inl rfl,?_⟩ | refine⟨.inr rfl,?_⟩));done)))
   | refine Ch.eO (hK _ ?_)
   | ((first | apply Ch.st | apply Ch.aU);exact rfl;exact rfl;(first
     | exact Do.dt (id:=36) rfl rfl rfl rfl rfl rfl rfl rfl
     | exact Do.aC rfl rfl rfl rfl .g rfl rfl rfl
     | exact Do.aC rfl rfl rfl rfl .d rfl rfl rfl
     | exact Do.aC rfl rfl rfl rfl (.r rfl) rfl rfl rfl);exact rfl;exact rfl)
   | ((first | apply Ch.ef | apply Ch.bU);exact rfl;exact rfl;(first
     | exact Do.alloc rfl rfl rfl
     | exact Do.box rfl rfl rfl .g rfl
     | exact Do.box rfl rfl rfl .d rfl
     | exact Do.fI rfl rfl
     | exact Do.ck rfl rfl rfl rfl rfl rfl (by first | omega | (simp;omega))
     | exact Do.bS rfl rfl rfl rfl rfl rfl);exact rfl;exact rfl)
   | refine Ch.fK (by rw[hms];kernel_rfl) (hK _ ?_)
   | refine Ch.iY rfl rfl ?_
   | refine AC.seq ?_
   | (refine AC.mm (by decide+kernel) ?_;intro K hK)
   | (refine AC.ox (by decide+kernel) ?_;intro K hK)
   | (refine AC.qG (by kernel_rfl) (by decide+kernel) ?_;intro K ms hms hK)
   | (refine AC.pD (by kernel_rfl) (by decide+kernel) ?_;intro K ms hms hK)
   | refine AC.jg rfl ?_
   | refine AC.ji rfl ?_
   | refine AC.block ?_
   | refine AC.exit ?_
   | refine AC.ret ?_
   | refine AC.skip ?_)
  first
   | exact k.out
   | (revert K;exact k.out)
   | (revert K ms;exact k.out)):p:=hs ⟨k⟩
theorem xR{Kw:World→Prop}[KSt Kw][KHas Kw ig](src:List UInt8)(i o e pl:Int)(he:e≠0)(hp:Fn Tryz.prog 45 [.d (.v (.string (tx src)))] [.d (.l []),.d (.v (.int .i64 pl)),.d (.v (.int .i64 e))]):FnK Tryz.prog 42 Kw [.d (.v (.string (tx src))),.d (.v (.int .i64 i)),.d (.v (.int .i64 o))] (j9 e):=by
 refine FnK.of Tryz.func42 rfl (by kernel_rfl) Tryz.ntmps42 Tryz.results42 rfl fun w0 S0 hK0=>?_;refine wy ?_;exact⟨.cn rfl rfl inferInstance rfl ⟨.inr rfl,.inr rfl,.inl rfl,.inl rfl,.inr rfl,trivial⟩,.d rfl (.inl rfl),trivial⟩
theorem BT{Kw:World→Prop}[KSt Kw][KHas Kw ig](src:List UInt8)(i o:Int)(l:List ST)(hp:Fn Tryz.prog 45 [.d (.v (.string (tx src)))] [.d (.l (l.map aq)),.d (.v (.int .i64 0)),.d (.v (.int .i64 0))])(hl:aK l≤100000)(hs:∀ s∈l,gL s)(hfb:∀ c∈l,∀f,(aG c).2=[f]→fbX f∧wX f≤40000000):FnK Tryz.prog 42 Kw [.d (.v (.string (tx src))),.d (.v (.int .i64 i)),.d (.v (.int .i64 o))] (uN i o (dv i l)):=by
 have hml:(l.map aq).length=l.length:=List.length_map ..;have hcl:=cj l;by_cases h2:l.length≠2
 ·rw[show dv i l=none from by
   match l,h2 with
   | [],_=>rfl
   | [_],_=>rfl
   | [_,_],h=>exact absurd rfl h
   | _::_::_::_,_=>rfl]
  refine FnK.of Tryz.func42 rfl (by kernel_rfl) Tryz.ntmps42 Tryz.results42 rfl fun w0 S0 hK0=>?_;refine wy ?_;exact⟨.cn rfl rfl inferInstance rfl ⟨.inr rfl,.inr rfl,.inl rfl,.inl rfl,.inr rfl,trivial⟩,.d rfl (.inl rfl),trivial⟩
 obtain⟨a,c,rfl⟩:∃ a c,l=[a,c]:=by
  match l,h2 with
  | [],h=>exact absurd (by decide) h
  | [_],h=>exact absurd (by simp) h
  | [a,c],_=>exact⟨a,c,rfl⟩
  | _::_::_::_,h=>exact absurd (by simp) h
 clear h2;have hl2:[a,c].length=2:=rfl;have hg0:[a,c][0]?=some a:=rfl;have hg1:[a,c][1]?=some c:=rfl;rw[aj,aj,bd]at hl;have swa:=hs a (by simp);have swc:=hs c (by simp);have hfb:=hfb c (by simp);have hA:=mH a;have hC:=mH c;have heads:∀ s:ST,gL s→∀ x∈(aG s).2,gL x∧cX x≤cX s:=fun s h1 x hx=>by
  obtain⟨sb,w,l⟩:=s;cases sb with
  | true=>cases hx
  | false=>
    rw[fB]at h1;have hm:x∈l:=by
     rcases my w l with h | ⟨h,hh⟩
     ·rw[h]at hx;cases hx
     ·rw[hh];exact List.mem_cons_of_mem _ hx
    exact⟨ca h1.2 x hm,by rw[aY];have:=(aO hm).2;omega⟩
 have hta:=heads a swa;have htc:=heads c swc;have hla:(aG a).2.length≤cX a:=by
  obtain⟨sb,w,l⟩:=a;cases sb with
  | true=>exact Nat.zero_le _
  | false=>
    have:=cj (aG (.mk false w l)).2;rw[aY];rcases my w l with h | ⟨h,hh⟩
    ·rw[h];exact Nat.zero_le _
    ·generalize (aG (.mk false w l)).2=t at hh this;rw[hh,aj];omega
 have hPP:dv i [a,c]=if (aG a).1=[98,111,120]∧(aG c).1=[98,97,100]∧(aG a).2.all gJ=true then
    (match (aG c).2 with
      | [f]=>if (dS (aG a).2&&(aE i f 0).2.2)=true then some ⟨(aG a).2.map fun x=>(bZ x).1,(aE i f 0).2.1,(aE i f 0).1⟩else none
      | _=>none)else none:=rfl
 rw[hPP];clear hPP heads hs;generalize (aG a).1=ha at hA ⊢;generalize (aG a).2=ta at hA hta hla ⊢;generalize (aG c).1=hc at hC ⊢;generalize (aG c).2=tc at hC htc hfb ⊢;have hma:(ta.map aq).length=ta.length:=List.length_map ..;have hmc:(tc.map aq).length=tc.length:=List.length_map ..;by_cases q1:ha=[98,111,120]
 rotate_left
 ·rw[if_neg (fun h=>q1 h.1)];refine FnK.of Tryz.func42 rfl (by kernel_rfl) Tryz.ntmps42 Tryz.results42 rfl fun w0 S0 hK0=>?_;refine wy ?_;(first | intro K ms hms hK | intro K hK | skip);refine Ch.u0 11 36 36 [.v (.int .i64 i),.n,.v (.bool false)] rfl rfl rfl fun b=>?_;refine Ch.oT 36 (fm b 196 (rE i (.slice none 0 0) false)) rfl ma (cA _ _ _) ?_;refine Ch.mV 122 157 5 rfl ?_;refine c1 hA ?_;refine wy ?_;exact⟨.cn rfl rfl inferInstance rfl ⟨.inr rfl,.inr rfl,.inl rfl,.inl rfl,.inr rfl,trivial⟩,.d rfl (.inl rfl),trivial⟩
 by_cases q2:hc=[98,97,100]
 rotate_left
 ·rw[if_neg (fun h=>q2 h.2.1)];refine FnK.of Tryz.func42 rfl (by kernel_rfl) Tryz.ntmps42 Tryz.results42 rfl fun w0 S0 hK0=>?_;refine wy ?_;(first | intro K ms hms hK | intro K hK | skip);refine Ch.u0 11 36 36 [.v (.int .i64 i),.n,.v (.bool false)] rfl rfl rfl fun b=>?_;refine Ch.oT 36 (fm b 196 (rE i (.slice none 0 0) false)) rfl ma (cA _ _ _) ?_;refine Ch.mV 122 157 5 rfl ?_;refine c1 hA ?_;refine wy ?_;exact⟨.cn rfl rfl inferInstance rfl ⟨.inr rfl,.inr rfl,.inl rfl,.inl rfl,.inr rfl,trivial⟩,.d rfl (.inl rfl),trivial⟩
 by_cases q3:tc.length=1
 rotate_left
 ·rw[show (match tc with
     | [f]=>if (dS ta&&(aE i f 0).2.2)=true then some (⟨ta.map fun x=>(bZ x).1,(aE i f 0).2.1,(aE i f 0).1⟩:PP)else none
     | _=>none)=none from by
    match tc,q3 with
    | [],_=>rfl
    | [_],h=>exact absurd rfl h
    | _::_::_,_=>rfl,ite_self]
  refine FnK.of Tryz.func42 rfl (by kernel_rfl) Tryz.ntmps42 Tryz.results42 rfl fun w0 S0 hK0=>?_;refine wy ?_;(first | intro K ms hms hK | intro K hK | skip);refine Ch.u0 11 36 36 [.v (.int .i64 i),.n,.v (.bool false)] rfl rfl rfl fun b=>?_;refine Ch.oT 36 (fm b 196 (rE i (.slice none 0 0) false)) rfl ma (cA _ _ _) ?_;refine Ch.mV 122 157 5 rfl ?_;refine c1 hA ?_;refine wy ?_;exact⟨.cn rfl rfl inferInstance rfl ⟨.inr rfl,.inr rfl,.inl rfl,.inl rfl,.inr rfl,trivial⟩,.d rfl (.inl rfl),trivial⟩
 obtain⟨f,rfl⟩:∃ f,tc=[f]:=List.length_eq_one_iff.1 q3;have hgf:[f][0]?=some f:=rfl;obtain⟨swf,cf⟩:=htc f (by simp);obtain⟨kf,hwf⟩:=hfb f rfl;dsimp only;refine FnK.of Tryz.func42 rfl (by kernel_rfl) Tryz.ntmps42 Tryz.results42 rfl fun w0 S0 hK0=>?_;have hKW:∀ w',qn ([]:List Value) w0 w'→Kw w':=fun w' hf=>KSt.st w0 w' hK0 ⟨hf.1,hf.2.1,hf.2.2.1,hf.2.2.2.1,fun b hb=>hf.2.2.2.2 b hb (by simp)⟩;refine wy ?_;(first | intro K ms hms hK | intro K hK | skip);refine Ch.u0 11 36 36 [.v (.int .i64 i),.n,.v (.bool false)] rfl rfl rfl fun b=>?_;refine Ch.oT 36 (fm b 196 (rE i (.slice none 0 0) false)) rfl ma (cA _ _ _) ?_;refine Ch.mV 122 157 5 rfl ?_;refine c1 hA ?_;refine wy ?_;refine AC.mj 16 0 121 152 6 rfl rfl rfl ?_;have hN:∀ (x:ST),gL x→∀ bad,FnO Tryz.prog 92 Kw (fS b i (.slice none 0 0) bad) _ _:=fun x hx bad=>pz (Kw:=Kw) b i _ bad x (iZ hx)
 refine AC.loop (X:=Nat) (fun j=>⟨[(1,.d (.v (.int .i64 i))),(2,.d (.v (.int .i64 o))),(6,.p 6 0),(11,.d (.v (aT b 0))),(15,.d (.l ([f].map aq))),(16,.p 16 0),(64,.d (.l (ta.map aq))),(65,.d (.v (.int .i64 (ta.length:Int)))),(66,.d (.v (.int .i64 (j:Int))))],[(6,.box 83 [.d .n,.d .n,.d (.v (.int .i64 0)),.d (.v (.int .i64 0)),.d .n]),(16,.box 83 [.r 121 j,.d .n,.d (.v (.int .i64 0)),.d (.v (.int .i64 0)),.d .n]),(36,pb b i (.slice none 0 0) (!dS (ta.take j))),(121,.row j 152 6 ((ta.take j).map fun x=>fe (bZ x).1)),(122,lU (.slice none 0 0) [])]⟩) (fun j=>j≤ta.length∧∀ x∈ta.take j,gJ x=true) (fun j=>ta.length-j) 0 ⟨Nat.zero_le _,by simp⟩ ⟨rfl,rfl,rfl,rfl,rfl,rfl,rfl,rfl,rfl,trivial⟩ ⟨rfl,rfl,rfl,rfl,rfl,trivial⟩ ?_;intro j ⟨hj,hpj⟩;dsimp only at hj hpj ⊢;refine wy ?_;refine s1 (fun g1=>?_) (fun g1=>?_)
 ·have hj1:j<ta.length:=by omega
  have hgj:ta[j]?=some ta[j]:=List.getElem?_eq_getElem hj1;have hmj:ta[j]∈ta:=List.getElem_mem hj1;have htk:ta.take (j+1)=ta.take j++[ta[j]]:=List.take_succ_eq_append_getElem hj1;obtain⟨swx,kx⟩:=hta _ hmj;generalize ta[j]=x at hgj hmj htk swx kx;have hno:gJ x=false→¬ (ha=[98,111,120]∧hc=[98,97,100]∧ta.all gJ=true):=fun h h'=>by
   have:=List.all_eq_true.1 h'.2.2 x hmj;rw[h]at this;cases this
  obtain⟨xb,xw,xl⟩:=x;rw[fB]at swx;cases xb with
  | true=>
    refine wy ?_;rw[if_neg (hno rfl)];exact⟨.cn rfl rfl inferInstance rfl ⟨.inr rfl,.inr rfl,.inl rfl,.inl rfl,.inr rfl,trivial⟩,.d rfl (.inl rfl),trivial⟩
  | false=>
    have hsub:iL (.mk false xw xl)=xl.map aq:=by rw[iL,fR]
    have hxl:(iL (.mk false xw xl)).length=xl.length:=by rw[hsub];exact List.length_map ..
    have hcx:=cj xl;have hcx2:aK xl≤cX (.mk false xw xl):=by rw[aY];omega
    by_cases hx2:xl.length=2
    rotate_left
    ·refine wy ?_;rw[if_neg (hno (by simp[gJ,ST.b,ST.l,hx2]))];exact⟨.cn rfl rfl inferInstance rfl ⟨.inr rfl,.inr rfl,.inl rfl,.inl rfl,.inr rfl,trivial⟩,.d rfl (.inl rfl),trivial⟩
    obtain⟨y,z,rfl⟩:∃ y z,xl=[y,z]:=by
     match xl,hx2 with
     | [y,z],_=>exact⟨y,z,rfl⟩
    have hy0:[y,z][0]?=some y:=rfl;have hy1:[y,z][1]?=some z:=rfl;have hyl:[y,z].length=2:=rfl;have n1:=hN y (ca swx.2 y (by simp)) (!dS (ta.take j));have n2:=hN z (ca swx.2 z (by simp)) (!dS (ta.take j)||!(aZ y).2);have hb1:dS (ta.take (j+1))=(dS (ta.take j)&&((aZ y).2&&(aZ z).2)):=by
     unfold dS;rw[htk,List.all_append];simp[bZ,ST.l]
    have ht1:((ta.take (j+1)).map fun x=>fe (bZ x).1)=((ta.take j).map fun x=>fe (bZ x).1)++[aN (aZ y).1++aN (aZ z).1]:=by
     rw[htk,List.map_append];rfl
    refine wy ?_;rw[hsub];refine wy ?_;refine cO (n1) ?_;refine wy ?_;rw[hsub];refine wy ?_;refine cO (n2) ?_;refine wy ?_;refine⟨j+1,⟨hj1,fun u hu=>?_⟩,by omega,⟨rfl,rfl,rfl,rfl,rfl,rfl,rfl,rfl,rfl,trivial⟩,⟨rfl,rfl,?_,?_,rfl,trivial⟩⟩
    ·rw[htk]at hu;rcases List.mem_append.1 hu with h | h
     ·exact hpj u h
     ·rw[List.mem_singleton.1 h];rfl
    ·rw[hb1,show (!(dS (ta.take j)&&((aZ y).2&&(aZ z).2)))=(!dS (ta.take j)||!(aZ y).2||!(aZ z).2)by cases dS (ta.take j)<;>cases (aZ y).2<;>rfl];rfl
    ·rw[ht1];rfl
 ·obtain rfl:j=ta.length:=by omega
  rw[List.take_length]at hpj ⊢;have hall:ta.all gJ=true:=List.all_eq_true.2 hpj;have hF:=xZ (Kw:=Kw) b i _ f (Nat.lt_succ_self _) swf kf (.slice none 0 0) (!dS ta) [] (.inl ⟨rfl,rfl⟩) (by show 0+cX f≤_;omega);rw[List.nil_append,show ([]:List At).length=0 from rfl]at hF;have hat:=xQ i _ f (Nat.lt_succ_self _) 0;have hatl:=uK i _ f (Nat.lt_succ_self _) 0;have hokT:=vB i _ f (Nat.lt_succ_self _) (by omega) 0;rw[show (!dS ta||!(aE i f 0).2.2)=!(dS ta&&(aE i f 0).2.2)by cases dS ta<;>cases (aE i f 0).2.2<;>rfl]at hF;have hfin:∀ B,(dS ta&&(aE i f 0).2.2)=B→(if ha=[98,111,120]∧hc=[98,97,100]∧ta.all gJ=true then(if (dS ta&&(aE i f 0).2.2)=true then some (⟨ta.map fun x=>(bZ x).1,(aE i f 0).2.1,(aE i f 0).1⟩:PP)else none)else none)=if B=true then some ⟨ta.map fun x=>(bZ x).1,(aE i f 0).2.1,(aE i f 0).1⟩else none:=fun B h=>by rw[if_pos ⟨q1,q2,hall⟩,h]
  obtain⟨B,hB⟩:∃ B,(dS ta&&(aE i f 0).2.2)=B:=⟨_,rfl⟩
  have hfin:=hfin B hB;rw[hB]at hF;have hck:=nI (k:=80004) ⟨ta.map fun x=>(bZ x).1,(aE i f 0).2.1,(aE i f 0).1⟩ i o ⟨fun s hs=>by
    obtain⟨x,hx,rfl⟩:=List.mem_map.1 hs;obtain⟨swx,_⟩:=hta x hx;have hp:=hpj x hx;obtain⟨xb,xw,xl⟩:=x;rw[fB]at swx
    match xl,hp,swx with
    | [],hp,_=>exact⟨jI (by rw[show (bZ (.mk xb xw [])).1.1=0 from rfl,dX];omega),jI (by rw[show (bZ (.mk xb xw [])).1.2=0 from rfl,dX];omega)⟩
    | [_],hp,_=>exact⟨jI (by rw[show (bZ (.mk xb xw [_])).1.1=0 from rfl,dX];omega),jI (by rw[show (bZ (.mk xb xw [_])).1.2=0 from rfl,dX];omega)⟩
    | [y,z],hp,swx=>
      have h1:=iZ (ca swx.2 y (by simp));have h2:=iZ (ca swx.2 z (by simp));have h3:=dO y.w;have h4:=dO z.w;exact⟨jI (show bz (aZ y).1≤_ by unfold aZ;dsimp only;omega),jI (show bz (aZ z).1≤_ by unfold aZ;dsimp only;omega)⟩
    | _::_::_::_,hp,_=>exact⟨jI (by rw[show (bZ (.mk xb xw (_::_::_::_))).1.1=0 from rfl,dX];omega),jI (by rw[show (bZ (.mk xb xw (_::_::_::_))).1.2=0 from rfl,dX];omega)⟩,by dsimp only;rw[List.length_map];omega⟩ (by omega) ⟨by dsimp only;omega,fun a ha=>by have:=(hat a ha).2.1;omega⟩ hokT
  rw[show fi ⟨ta.map fun x=>(bZ x).1,(aE i f 0).2.1,(aE i f 0).1⟩=[.l ((ta.map fun x=>(bZ x).1).map fe),.l ((aE i f 0).2.1.map fG)]++aM (aE i f 0).1 from rfl,List.map_map]at hck;refine wy ?_;(first | intro K ms hms hK | intro K hK | skip);refine Ch.du [36,122] hF rfl rfl rfl (by decide) rfl (od rfl rfl) ⟨.inl rfl,.inl rfl,trivial⟩ (fun β a w hi w' hf=>hKW w' (hi.Af (is:=[36,122]) rfl (od rfl rfl) hf)) ?_;rintro post res ⟨x',hx',rfl,rfl⟩ _;refine Ch.lG 36 122 (fm b 196 [.v (.int .i64 i),.l ((aE i f 0).2.1.map fG),.v (.bool (!B))]) (by decide) rfl rfl (cA _ _ _) (fun S w h0 hb h=>mT (cs:=rE i x' (!B)) (j:=1) rfl S w h0 hb h) ?_;refine Ch.gT 16 0 rfl rfl rfl ?_;cases B with
  | false=>
    refine wy ?_;rw[hfin];exact⟨.cn rfl rfl inferInstance rfl ⟨.inr rfl,.inr rfl,.inl rfl,.inl rfl,.inr rfl,trivial⟩,.d rfl (.inl rfl),trivial⟩
  | true=>
    refine wy ?_;obtain⟨R,hR⟩:∃ R,gj ⟨ta.map fun x=>(bZ x).1,(aE i f 0).2.1,(aE i f 0).1⟩ i o=R:=⟨_,rfl⟩
    have hR':dJ (dD (aE i f 0).1 (aE i f 0).2.1.length) (ta.map fun x=>(bZ x).1) (aE i f 0).2.1 i o=R:=hR;dsimp only;rw[hR'];by_cases h0:R=0
    ·refine wy ?_;rw[hfin,if_pos rfl];show dB _ _ _ (if gj _ i o=0 then _ else _);rw[hR,if_pos h0];exact⟨.cn rfl rfl inferInstance rfl ⟨.inl (by dsimp only;rw[List.map_map];rfl),.inl rfl,.inl rfl,.inl rfl,.inl rfl,trivial⟩,.d rfl (.inl rfl),trivial⟩
    ·refine wy ?_;rw[hfin,if_pos rfl];show dB _ _ _ (if gj _ i o=0 then _ else _);rw[hR,if_neg h0];exact⟨.cn rfl rfl inferInstance rfl ⟨.inr rfl,.inr rfl,.inl rfl,.inl rfl,.inr rfl,trivial⟩,.d rfl (.inl rfl),trivial⟩
def su(src:List UInt8):Prop:=∀ l r m,ay (src.length+1) 0 src 0= .ok l r m→(∀s∈l,gL s)∧∀ c∈l,∀f,(aG c).2=[f]→fbX f∧wX f≤40000000
theorem rM{Kw:World→Prop}[KSt Kw][KHas Kw ig](src:List UInt8)(i o:Int)(hf:su src):FnK Tryz.prog 42 Kw [.d (.v (.string (tx src))),.d (.v (.int .i64 i)),.d (.v (.int .i64 o))] (jN src i o):=by
 have hp:=r8 src;unfold pn at hp;unfold jN;by_cases hb:1000000<src.length
 ·rw[if_pos hb]at hp ⊢;exact xR src i o 2 _ (by decide) hp
 rw[if_neg hb]at hp ⊢;have hsu:=gY (src.length+1) 0 src 0;have hc:=mw (src.length+1) 0 src 0;have hn:=kD (src.length+1) 0 src 0 (by decide) (by decide);have hf:=hf;unfold su at hf;cases hX:ay (src.length+1) 0 src 0 with
 | bad e left=>
   rw[hX]at hp hsu;exact xR src i o e _ hsu.1 hp
 | ok l r m=>
   rw[hX]at hp hc hn;have hc:m=0+aK l:=hc;exact BT src i o l hp (by have:=hn.2;omega) (hf l r m hX).1 (hf l r m hX).2
