import Derived.Test.YthdkkpocihkgbaaGreatDoorPrW
namespace Go.Proofs.YthdkkpocihkgbaaGreatDoor
open Go.RowKit
section
variable {P:Program}{C:Cx}{o:Oper}{σ:AS}
theorem Chain.reown{ops:Array Oper}{fin:List Inf→Prop}{K:AS→Prop}{rest:List Oper}(id:Nat){x:Value}{R:Rel}(R':Rel)(hO:get? σ.objs id=some (.own x R))(hR:∀ S w,R S w→R' S w)(hst:RStable x R')(h:Chain P C ops fin K none rest ⟨σ.env,(id,.own x R')::σ.objs⟩):Chain P C ops fin K none rest σ:=
 .weak _ (fun a w ⟨β,hi⟩=>by
  obtain⟨hx,h1,_⟩:=hi.obj id _ hO;have h2:=hi.own' id _ hO R' (hR _ _ h1) (by rw[hx];exact hst);rw[hx]at h2;exact⟨β,h2⟩) h
end
attribute [local irreducible] AC Do St
theorem parseX_c:∀ (f d:Nat) (s:List UInt8) (n:Int),match parseX f d s n with
  | .ok out _ m=>m=n+cXs out
  | .bad _ _=>True
 | 0,d,s,n=>trivial
 | f+1,d,s,n=>by
   rw[parseX];cases skX false s with
   | nil=>
     dsimp only;by_cases k0:0<d
     ·rw[if_pos k0];trivial
     ·rw[if_neg k0];show n=n+(cXs []:Nat);rw[cXs_nil];simp
   | cons c r=>
     dsimp only;by_cases k1:c.toNat=41
     ·rw[if_pos k1];by_cases k2:d=0
      ·rw[if_pos k2];trivial
      ·rw[if_neg k2];show n=n+(cXs []:Nat);rw[cXs_nil];simp
     rw[if_neg k1];by_cases k3:100000<n+1∨(c.toNat=40∧d=200)
     ·rw[if_pos k3];trivial
     rw[if_neg k3];by_cases k4:c.toNat=40
     ·rw[if_pos k4];have h2:=parseX_c f (d+1) r (n+1);cases hX:parseX f (d+1) r (n+1)with
      | bad e left=>trivial
      | ok sub r2 n2=>
        rw[hX]at h2;have h2:n2=n+1+cXs sub:=h2;have h3:=parseX_c f d r2 n2;show match PX.cons (.mk false [] sub) (parseX f d r2 n2)with
         | .ok out _ m=>m=n+cXs out
         | .bad _ _=>True
        cases hY:parseX f d r2 n2 with
        | bad e left=>trivial
        | ok out r3 n3=>
          rw[hY]at h3;have h3:n3=n2+cXs out:=h3;show n3=n+(cXs (ST.mk false [] sub::out):Nat);rw[cXs_cons,cX_mk];omega
     rw[if_neg k4];by_cases k5:plainB c=true
     ·rw[if_pos k5];have h3:=parseX_c f d ((c::r).dropWhile plainB) (n+1);cases hY:parseX f d ((c::r).dropWhile plainB) (n+1)with
      | bad e left=>trivial
      | ok out r3 n3=>
        rw[hY]at h3;have h3:n3=n+1+cXs out:=h3;show n3=n+(cXs (ST.mk true _ []::out):Nat);rw[cXs_cons,cX_mk,cXs_nil];omega
     ·rw[if_neg k5];trivial
theorem fmXs_atA(i:Int)(N K:Nat)(l:List ST)(hl:∀ x∈l,∀n,∀a∈(fmX i x n).2.1,exB N K a.e):∀ n,∀a∈(fmXs i l n).2.1,exB N K a.e:=by
 induction l with
 | nil=>intro n a ha;rw[fmXs_nil]at ha;cases ha
 | cons x r ih=>
   intro n a ha;rw[fmXs_cons]at ha;rcases List.mem_append.1 ha with h | h
   ·exact hl x (by simp) n a h
   ·exact ih (fun y hy=>hl y (by simp[hy])) _ a h
theorem cmpX_ex{i:Int}{w:List UInt8}{x y:ST}{a:At×Bool}(h:cmpX i w [x,y]=some a):a.1.op=opX w∧opX w≠0∧a.2=((sumX i x).2&&(sumX i y).2)∧(a.1.e=subE (sumX i x).1 (sumX i y).1∨a.1.e=subE (sumX i y).1 (sumX i x).1):=by
 by_cases ho:opX w=0
 ·rw[show cmpX i w [x,y]=none from if_pos ho]at h;cases h
 ·rw[show cmpX i w [x,y]=some _ from if_neg ho]at h;cases h;refine⟨rfl,ho,rfl,?_⟩;dsimp only;split
  ·exact .inr rfl
  ·exact .inl rfl
theorem fmX_at(i:Int):∀ (m:Nat) (s:ST),wX s<m→∀ n,∀a∈(fmX i s n).2.1,exB (cX s) (kX s+2) a.e:=by
 intro m
 induction m with
 | zero=>intro s h;omega
 | succ m ih=>
 intro s hs n a ha;obtain⟨b,w,l⟩:=s;rw[wX_mk]at hs;cases b with
 | true=>
   rw[fmX_t]at ha;split at ha
   ·cases ha
   ·split at ha<;>cases ha
 | false=>
   cases l with
   | nil=>rw[fmX_0]at ha;cases ha
   | cons h t=>
     rw[fmX_l]at ha;split at ha
     ·split at ha
      ·refine fmXs_atA i _ _ t (fun x hx n a ha=>?_) n a ha;have hx':=List.mem_cons_of_mem h hx;refine(ih x (by have:=(wXs_mem hx').1;omega) n a ha).mono ?_ ?_
       ·rw[cX_mk];have:=(wXs_mem hx').2;omega
       ·have:=kX_mem (b:=false) (w:=w) hx';omega
      ·match t,ha with
       | [],ha=>cases ha
       | [_],ha=>cases ha
       | [x,y],ha=>
         cases hc:cmpX i h.w [x,y]with
         | none=>rw[hc]at ha;cases ha
         | some c=>
           rw[hc]at ha;obtain rfl:=List.mem_singleton.1 ha;obtain⟨_,_,_,h4⟩:=cmpX_ex hc;obtain⟨p1,p2,p3⟩:=sumX_bd i _ x (Nat.lt_succ_self _);obtain⟨q1,q2,q3⟩:=sumX_bd i _ y (Nat.lt_succ_self _);have hk:=(kX_two (w:=w) (l:=[h,x,y]) rfl).1;have hcx:cX x+cX y≤cX (.mk false w [h,x,y]):=by rw[cX_mk,cXs_cons,cXs_cons,cXs_cons];omega
           obtain⟨r1,r2,r3⟩:=subE_tb (sumX i x).1 (sumX i y).1;obtain⟨s1',s2',s3'⟩:=subE_tb (sumX i y).1 (sumX i x).1;rcases h4 with h4 | h4
           ·rw[h4];exact⟨by omega,by omega,by omega⟩
           ·rw[h4];exact⟨by omega,by omega,by omega⟩
       | _::_::_::_,ha=>cases ha
     ·cases ha
theorem okTs_all:∀ {s:List FT},(∀g∈s,okT g)→okTs s
 | [],_=>by rw[okTs];trivial
 | f::r,h=>by rw[okTs];exact⟨h f (by simp),okTs_all fun g hg=>h g (by simp[hg])⟩
theorem fmXs_okA(i:Int)(l:List ST)(hl:∀ x∈l,∀n,okT (fmX i x n).1):∀ n,∀g∈(fmXs i l n).1,okT g:=by
 induction l with
 | nil=>intro n g hg;rw[fmXs_nil]at hg;cases hg
 | cons x r ih=>
   intro n g hg;rw[fmXs_cons]at hg;rcases List.mem_cons.1 hg with h | h
   ·rw[h];exact hl x (by simp) n
   ·exact ih (fun y hy=>hl y (by simp[hy])) _ g h
theorem fmX_okT(i:Int):∀ (m:Nat) (s:ST),wX s<m→wX s≤9000000000000000000→∀ n,okT (fmX i s n).1:=by
 intro m
 induction m with
 | zero=>intro s h;omega
 | succ m ih=>
 intro s hs hb n;have okn:∀ k a:Int,okT (.mk k a []):=fun k a=>by rw[okT,okTs];exact⟨by simp,trivial⟩
 obtain⟨b,w,l⟩:=s;rw[wX_mk]at hs hb;cases b with
 | true=>
   rw[fmX_t];split
   ·exact okn _ _
   ·split<;>exact okn _ _
 | false=>
   cases l with
   | nil=>rw[fmX_0];exact okn _ _
   | cons h t=>
     rw[fmX_l];split
     ·split
      ·dsimp only;rw[okT];have h1:=cXs_len t;have h2:=cXs_w t;rw[wXs_cons]at hs hb;exact⟨by rw[fmXs_len];omega,okTs_all (fmXs_okA i t (fun x hx n=>ih x (by have:=(wXs_mem hx).1;omega) (by have:=(wXs_mem hx).1;omega) n) n)⟩
      ·cases cmpX i h.w t with
       | none=>exact okn _ _
       | some a=>exact okn _ _
     ·exact okn _ _
def pairB(x:ST):Bool:=!x.b&&decide (x.l.length=2)
def sideX(x:ST):(Rat×Rat)×Bool:=match x.l with
 | [a,c]=>(((numX a).1,(numX c).1),(numX a).2&&(numX c).2)
 | _=>((0,0),false)
def bxOK(t:List ST):Bool:=t.all fun x=>(sideX x).2
noncomputable def parsePP (i:Int)(l:List ST):Option PP:=match l with
 | [a,c]=>if (headX a).1=[98,111,120]∧(headX c).1=[98,97,100]∧(headX a).2.all pairB=true then
    (match (headX c).2 with
      | [f]=>if (bxOK (headX a).2&&(fmX i f 0).2.2)=true then some ⟨(headX a).2.map fun x=>(sideX x).1,(fmX i f 0).2.1,(fmX i f 0).1⟩else none
      | _=>none)else none
 | _=>none
def zeroPP:PP:=⟨[],[],.mk 0 0 []⟩
def badR(e:Int):List DV:=[.g (enPP zeroPP),.d (.v (.int .i64 e))]
def chkPP(p:PP)(i o:Int):Int:=pChkE (chkT p.bad p.ats.length) p.box p.ats i o
def resP(i o:Int):Option PP→List DV
 | none=>badR 5
 | some p=>if chkPP p i o=0 then [.g (enPP p),.d (.v (.int .i64 0))]else badR (chkPP p i o)
noncomputable def parPR (src:List UInt8)(i o:Int):List DV:=if 1000000<src.length then badR 2 else match parseX (src.length+1) 0 src 0 with
 | .bad e _=>badR e
 | .ok l _ _=>resP i o (parsePP i l)
end Go.Proofs.YthdkkpocihkgbaaGreatDoor
