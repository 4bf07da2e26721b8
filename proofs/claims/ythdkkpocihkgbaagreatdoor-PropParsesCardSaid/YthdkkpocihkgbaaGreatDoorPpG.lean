import Derived.Test.YthdkkpocihkgbaaGreatDoorPrY
set_option maxRecDepth 100000
set_option maxHeartbeats 4000000
namespace Go.Proofs.YthdkkpocihkgbaaGreatDoor
open Go.RowKit
structure TK where
 k:UInt8
 p:Nat
 w:List UInt8
def fQ(c:UInt8):Bool:=!decide (c.toNat=10)
def ct:Nat→List UInt8→Nat→List TK
 | 0,_,p=>[⟨46,p,[]⟩]
 | _+1,[],p=>[⟨46,p,[]⟩]
 | f+1,c::r,p=>
   if kE c=true then ct f r (p+1)
   else if c.toNat=59 then ct f (r.dropWhile fQ) (p+1+(r.takeWhile fQ).length)
   else if c.toNat=40∨c.toNat=41 then⟨c,p,[]⟩::ct f r (p+1)
   else if au c=true then⟨119,p,(c::r).takeWhile au⟩::ct f ((c::r).dropWhile au) (p+((c::r).takeWhile au).length)
   else [⟨33,p,[]⟩]
def ja:List TK→Nat→Int→Int×Int
 | [],_,_=>(0,0)
 | t::r,o,n=>
   if t.k.toNat=33 then(if 100000<n+1 then(t.p,2)else(t.p,3))
   else if t.k.toNat=46 then(if 0<o then(t.p,3)else ja r o n)
   else if t.k.toNat=41 then(if o=0 then(t.p,3)else ja r (o-1) n)
   else if 100000<n+1∨(t.k.toNat=40∧o=200)then(t.p,2)
   else ja r (if t.k.toNat=40 then o+1 else o) (n+1)
theorem tW:∀ r:List UInt8,aI true r=aI false (r.dropWhile fQ)
 | []=>by rw[aI,List.dropWhile_nil,aI]
 | c::r=>by
   by_cases h:c.toNat=10
   ·rw[yh h,List.dropWhile_cons,if_neg (by unfold fQ;simp[h])]
   ·rw[yv h,List.dropWhile_cons,if_pos (by unfold fQ;simp[h])];exact tW r
theorem py(q:UInt8→Bool)(l:List UInt8):(l.dropWhile q).length≤l.length:=(List.dropWhile_sublist q).length_le
theorem uZ:∀ (g:Nat) (s:List UInt8) (p:Nat),s.length<g→∃ g' p',(aI false s).length<g'∧ct g s p=ct g' (aI false s) p'
 | 0,s,p,h=>absurd h (Nat.not_lt_zero _)
 | g+1,[],p,h=>⟨g+1,p,by rw[aI];simp,by rw[aI]⟩
 | g+1,c::r,p,h=>by
   rw[List.length_cons]at h;by_cases h1:kE c=true
   ·obtain⟨g',p',e1,e2⟩:=uZ g r (p+1) (by omega);have e:aI false (c::r)=aI false r:=by rw[aI];exact if_pos h1
    refine⟨g',p',by rw[e];exact e1,?_⟩;rw[ct,if_pos h1,e,e2]
   by_cases h2:c.toNat=59
   ·have h3:=py fQ r;obtain⟨g',p',e1,e2⟩:=uZ g (r.dropWhile fQ) (p+1+(r.takeWhile fQ).length) (by omega);have e:aI false (c::r)=aI false (r.dropWhile fQ):=by
     rw[aI,if_neg h1,if_pos h2,tW]
    refine⟨g',p',by rw[e];exact e1,?_⟩;rw[ct,if_neg h1,if_pos h2,e,e2]
   ·have e:aI false (c::r)=c::r:=by rw[aI,if_neg h1,if_neg h2]
    exact⟨g+1,p,by rw[e,List.length_cons];omega,by rw[e]⟩
theorem kW:∀ (b:Bool) (s:List UInt8) {c:UInt8} {r:List UInt8},aI b s=c::r→¬ kE c=true∧c.toNat≠59
 | b,[],c,r,h=>by cases b<;>(rw[aI]at h;cases h)
 | false,d::s,c,r,h=>by
   rw[aI]at h;split at h
   ·exact kW false s h
   ·rename_i h1;split at h
    ·exact kW true s h
    ·rename_i h2;cases h;exact⟨h1,h2⟩
 | true,d::s,c,r,h=>by
   rw[aI]at h;split at h
   ·exact kW false s h
   ·exact kW true s h
theorem yw{g p:Nat}{c:UInt8}{r:List UInt8}(h1:¬ kE c=true)(h2:c.toNat≠59):ct (g+1) (c::r) p=if c.toNat=40∨c.toNat=41 then⟨c,p,[]⟩::ct g r (p+1)else if au c=true then⟨119,p,(c::r).takeWhile au⟩::ct g ((c::r).dropWhile au) (p+((c::r).takeWhile au).length)else [⟨33,p,[]⟩]:=by
 rw[ct,if_neg h1,if_neg h2]
def mb(d:Nat)(s:List UInt8)(F:Int×Int):PX→Prop
 | .bad e _=>F.2=e∧e≠0
 | .ok _ rest m=>if d=0 then F.2=0 else rest.length<s.length∧∃ g' p',rest.length<g'∧F=ja (ct g' rest p') (d-1) m
theorem jM:∀ (f d:Nat) (s:List UInt8) (n:Int) (g p:Nat),s.length<f→s.length<g→mb d s (ja (ct g s p) d n) (ay f d s n)
 | 0,d,s,n,g,p,h,_=>absurd h (Nat.not_lt_zero _)
 | f+1,d,s,n,g,p,h,hg=>by
   obtain⟨g',p',e1,e2⟩:=uZ g s p hg;have hsk:=eQ false s;rw[e2,ay];cases hs:aI false s with
   | nil=>
     dsimp only;obtain⟨g1,rfl⟩:∃ g1,g'=g1+1:=⟨g'-1,by omega⟩
     rw[ct,ja,if_neg (show ¬(46:UInt8).toNat=33 by decide),if_pos (show (46:UInt8).toNat=46 from rfl)];by_cases k0:0<d
     ·rw[if_pos k0,if_pos k0];exact⟨rfl,by decide⟩
     ·rw[if_neg k0,if_neg k0,ja,mb,if_pos (by omega)]
   | cons c r=>
     dsimp only;obtain⟨b1,b2⟩:=kW false s hs;rw[hs]at e1 hsk;rw[List.length_cons]at e1 hsk;obtain⟨g1,rfl⟩:∃ g1,g'=g1+1:=⟨g'-1,by omega⟩
     rw[yw b1 b2];by_cases k1:c.toNat=41
     ·rw[if_pos k1,if_pos (.inr k1),ja,if_neg (by dsimp only;omega),if_neg (by dsimp only;omega),if_pos k1];by_cases k2:d=0
      ·rw[if_pos k2,if_pos k2];exact⟨rfl,by decide⟩
      ·rw[if_neg k2,if_neg k2,mb,if_neg k2];exact⟨by omega,g1,p'+1,by omega,rfl⟩
     rw[if_neg k1];by_cases k4:c.toNat=40
     ·rw[if_pos (.inl k4),ja,if_neg (by dsimp only;omega),if_neg (by dsimp only;omega),if_neg k1];by_cases k3:100000<n+1∨(c.toNat=40∧d=200)
      ·rw[if_pos k3,if_pos k3];exact⟨rfl,by decide⟩
      rw[if_neg k3,if_neg k3,if_pos k4,if_pos k4];have h2:=jM f (d+1) r (n+1) g1 (p'+1) (by omega) (by omega);cases hX:ay f (d+1) r (n+1)with
      | bad e left=>rw[hX]at h2;exact h2
      | ok sub r2 n2=>
        rw[hX,mb,if_neg (Nat.succ_ne_zero d)]at h2;obtain⟨l2,g2,p2,q1,q2⟩:=h2;rw[q2,Nat.add_sub_cancel];have h3:=jM f d r2 n2 g2 p2 (by omega) q1;show mb d s _ (PX.cons (.mk false [] sub) (ay f d r2 n2));cases hY:ay f d r2 n2 with
        | bad e left=>rw[hY]at h3;exact h3
        | ok out r3 n3=>
          rw[hY,mb]at h3;show mb d s _ (.ok _ r3 n3);rw[mb];split at h3
          ·rename_i hd;rw[if_pos hd];exact h3
          ·rename_i hd;rw[if_neg hd];exact⟨by omega,h3.2⟩
     rw[if_neg (by omega),if_neg k4];by_cases k5:au c=true
     ·rw[if_pos k5,if_pos k5,ja,if_neg (show ¬(119:UInt8).toNat=33 by decide),if_neg (show ¬(119:UInt8).toNat=46 by decide),if_neg (show ¬(119:UInt8).toNat=41 by decide)];by_cases k3:100000<n+1
      ·rw[if_pos (.inl k3),if_pos (.inl k3)];exact⟨rfl,by decide⟩
      rw[if_neg (show ¬(100000<n+1∨((119:UInt8).toNat=40∧d=200))from fun h=>h.elim k3 fun h=>absurd h.1 (by decide)),if_neg (show ¬(100000<n+1∨(c.toNat=40∧d=200))from fun h=>h.elim k3 fun h=>k4 h.1),if_neg (show ¬(119:UInt8).toNat=40 by decide)];have hdl:=ym r;rw[qm k5];have h3:=jM f d (r.dropWhile au) (n+1) g1 (p'+((c::r).takeWhile au).length) (by omega) (by omega);show mb d s _ (PX.cons (.mk true _ []) (ay f d (r.dropWhile au) (n+1)));cases hY:ay f d (r.dropWhile au) (n+1)with
      | bad e left=>rw[hY]at h3;exact h3
      | ok out r3 n3=>
        rw[hY,mb]at h3;show mb d s _ (.ok _ r3 n3);rw[mb];split at h3
        ·rename_i hd;rw[if_pos hd];exact h3
        ·rename_i hd;rw[if_neg hd];exact⟨by omega,h3.2⟩
     ·rw[if_neg k5,if_neg k5,ja,if_pos (show (33:UInt8).toNat=33 from rfl)];by_cases k3:100000<n+1
      ·rw[if_pos (show 100000<n+1∨(c.toNat=40∧d=200)from .inl k3),if_pos k3];exact⟨rfl,by decide⟩
      ·rw[if_neg (show ¬(100000<n+1∨(c.toNat=40∧d=200))from fun h=>h.elim k3 fun h=>k4 h.1),if_neg k3];exact⟨rfl,by decide⟩
def mQ(src:List UInt8):Int×Int:=if 1000000<src.length then(0,2)else ja (ct (src.length+1) src 0) 0 0
theorem jU:∀ (f d:Nat) (s:List UInt8) (n:Int) {out:List ST} {rest:List UInt8} {m:Int},ay f d s n= .ok out rest m→fY out
 | 0,d,s,n,out,rest,m,h=>by rw[ay]at h;cases h
 | f+1,d,s,n,out,rest,m,h=>by
   rw[ay]at h;split at h
   ·split at h
    ·cases h
    ·cases h;rw[fY];trivial
   ·split at h
    ·split at h
     ·cases h
     ·cases h;rw[fY];trivial
    ·split at h
     ·cases h
     ·split at h
      ·cases hX:ay f (d+1) _ (n+1)with
       | bad e left=>rw[hX]at h;cases h
       | ok sub r2 n2=>
         rw[hX]at h;have h:PX.cons (.mk false [] sub) (ay f d r2 n2)= .ok out rest m:=h;cases hY:ay f d r2 n2 with
         | bad e left=>rw[hY]at h;cases h
         | ok o2 r3 n3=>
           rw[hY]at h;cases h;rw[fY,fA];exact⟨⟨(fun h=>nomatch h),fun _=>rfl,jU f _ _ _ hX⟩,jU f _ _ _ hY⟩
      ·split at h
       ·rename_i c r _ _ _ _ _;cases hY:ay f d ((c::r).dropWhile au) (n+1)with
        | bad e left=>rw[hY]at h;cases h
        | ok o2 r3 n3=>
          rw[hY]at h;cases h;rw[fY,fA,fY];exact⟨⟨fun _=>rfl,fun h=>(nomatch h),trivial⟩,jU f _ _ _ hY⟩
       ·cases h
def Cv:List UInt8→Prop
 | []=>True
 | c::_=>¬ au c=true
theorem Am:∀ r:List UInt8,Cv (r.dropWhile au)
 | []=>trivial
 | c::r=>by
   rw[List.dropWhile_cons];split
   ·exact Am r
   ·rename_i h;exact h
theorem Ez(q:UInt8→Bool)(l:List UInt8):(l.takeWhile q).length+(l.dropWhile q).length=l.length:=by
 rw[←List.length_append,List.takeWhile_append_dropWhile]
def ly(d:Nat)(s:List UInt8):PX→Prop
 | .bad _ _=>True
 | .ok out rest _=>aK out+bI out+2*rest.length+(if d=0 then 0 else 2)≤2*s.length+1∧(Cv s→aK out+bI out+2*rest.length+(if d=0 then 0 else 2)≤2*s.length)
theorem lr:∀ (f d:Nat) (s:List UInt8) (n:Int),ly d s (ay f d s n)
 | 0,d,s,n=>trivial
 | f+1,d,s,n=>by
   have hsk:=eQ false s;have key:∀ X:PX,ly d (aI false s) X→((aI false s).length<s.length∨aI false s=s)→ly d s X:=by
    intro X hX hl;cases X with
    | bad e left=>trivial
    | ok out rest m=>
      obtain⟨h1,h2⟩:=hX;rcases hl with hl | hl
      ·exact⟨by omega,fun _=>by omega⟩
      ·rw[hl]at h1 h2;exact⟨h1,h2⟩
   have hl:(aI false s).length<s.length∨aI false s=s:=by
    cases s with
    | nil=>exact .inr (by rw[aI])
    | cons c r=>
      rw[aI];split
      ·have:=eQ false r;exact .inl (by rw[List.length_cons];omega)
      ·split
       ·have:=eQ true r;exact .inl (by rw[List.length_cons];omega)
       ·exact .inr rfl
   refine key _ ?_ hl;rw[ay];cases aI false s with
   | nil=>
     dsimp only;by_cases k0:0<d
     ·rw[if_pos k0];trivial
     ·rw[if_neg k0,ly,if_pos (by omega),bd,cT];exact⟨by simp,fun _=>by simp⟩
   | cons c r=>
     dsimp only;by_cases k1:c.toNat=41
     ·rw[if_pos k1];by_cases k2:d=0
      ·rw[if_pos k2];trivial
      ·rw[if_neg k2,ly,if_neg k2,bd,cT,List.length_cons];exact⟨by omega,fun _=>by omega⟩
     rw[if_neg k1];by_cases k3:100000<n+1∨(c.toNat=40∧d=200)
     ·rw[if_pos k3];trivial
     rw[if_neg k3];by_cases k4:c.toNat=40
     ·rw[if_pos k4];have h2:=lr f (d+1) r (n+1);cases hX:ay f (d+1) r (n+1)with
      | bad e left=>trivial
      | ok sub r2 n2=>
        rw[hX,ly,if_neg (Nat.succ_ne_zero d)]at h2;have h3:=lr f d r2 n2;show ly d _ (PX.cons (.mk false [] sub) (ay f d r2 n2));cases hY:ay f d r2 n2 with
        | bad e left=>trivial
        | ok out r3 n3=>
          rw[hY,ly]at h3;show ly d _ (.ok (.mk false [] sub::out) r3 n3);rw[ly,aj,aA,aY,bt,List.length_cons,List.length_nil];have e1:=h2.1;have e2:=h3.1;generalize (if d=0 then 0 else 2)=k at*;exact⟨by omega,fun _=>by omega⟩
     rw[if_neg k4];by_cases k5:au c=true
     ·rw[if_pos k5];have h3:=lr f d ((c::r).dropWhile au) (n+1);have hnp:Cv ((c::r).dropWhile au):=Am _;have htw:=Ez au (c::r);have ht1:1≤((c::r).takeWhile au).length:=by rw[List.takeWhile_cons,if_pos k5,List.length_cons];omega
      cases hY:ay f d ((c::r).dropWhile au) (n+1)with
      | bad e left=>trivial
      | ok out r3 n3=>
        rw[hY,ly]at h3;show ly d _ (.ok (.mk true ((c::r).takeWhile au) []::out) r3 n3);rw[ly,aj,aA,aY,bt,bd,cT];have e2:=h3.2 hnp;generalize (if d=0 then 0 else 2)=k at*;exact⟨by omega,fun h=>absurd k5 h⟩
     ·rw[if_neg k5];trivial
theorem Aj(a b:Nat):4*(a*b)≤(a+b)*(a+b):=by
 rcases Nat.le_total a b with h | h
 ·obtain⟨k,rfl⟩:=Nat.le.dest h;have:(a+(a+k))*(a+(a+k))=4*(a*(a+k))+k*k:=by grind
  omega
 ·obtain⟨k,rfl⟩:=Nat.le.dest h;have:(b+k+b)*(b+k+b)=4*((b+k)*b)+k*k:=by grind
  omega
theorem tG{s:ST}(h:cX s+wX s≤6001):kX s≤40000000:=by
 have h1:=Aj (cX s) (wX s+2);have h2:(cX s+(wX s+2))*(cX s+(wX s+2))≤6003*6003:=Nat.mul_le_mul (by omega) (by omega);have h3:kX s=4*(cX s*(wX s+2)):=by unfold kX;grind
 omega
theorem nm:∀ (m:Nat) (s:ST),wX s<m→wX s≤6001→gL s:=by
 intro m
 induction m with
 | zero=>intro s h;omega
 | succ m ih=>
 intro s h hs;obtain⟨b,w,l⟩:=s;rw[bt]at h hs;rw[fB];refine⟨by omega,?_⟩;have h1:∀ x∈l,gL x:=fun x hx=>ih x (by have:=(aO hx).1;omega) (by have:=(aO hx).1;omega);clear h hs
 induction l with
 | nil=>rw[kQ];trivial
 | cons x r ihr=>rw[kQ];exact⟨h1 x (by simp),ihr fun y hy=>h1 y (by simp[hy])⟩
theorem xU{c f:ST}(h:f∈(aG c).2):cX f≤cX c∧wX f≤wX c:=by
 match c,h with
 | .mk true w l,h=>cases h
 | .mk false w [],h=>cases h
 | .mk false w (x::t),h=>
   change f∈(if x.b=true then(x.w,t)else([],[])).2 at h;rw[aY,bt,aj,aA];split at h
   ·have:=aO (show f∈t from h);omega
   ·cases h
theorem pj{src:List UInt8}(h:src.length≤3000){l:List ST}{r:List UInt8}{m:Int}(hp:ay (src.length+1) 0 src 0= .ok l r m):aK l+bI l≤6001:=by
 have:=lr (src.length+1) 0 src 0;rw[hp,ly,if_pos rfl]at this;omega
theorem wV{src:List UInt8}(h:src.length≤3000):su src:=by
 intro l r m hp;have hb:=pj h hp;refine⟨fun s hs=>nm _ s (Nat.lt_succ_self _) (by have:=(aO hs).1;omega),fun c hc f hf=>?_⟩;have h1:=aO hc;have h2:=xU (c:=c) (f:=f) (by rw[hf];simp);exact⟨.small (tG (by omega)),by omega⟩
theorem mN(i:Int):∀ (n:Nat) (s:ST),wX s<n→(∀v,bz (ar (ak i s).1.t v)+1≤4*wX s+cX s)∧bz (ak i s).1.c+1≤4*wX s+cX s:=by
 intro n
 induction n with
 | zero=>intro s h;omega
 | succ n ih=>
 intro s hs;obtain⟨b,w,l⟩:=s;have hq:=dO w;rw[jy,bt,aY];rw[bt]at hs;have hbad:(∀v,bz (ar (⟨[],0⟩:Ex).t v)+1≤4*(w.length+1+bI l)+(1+aK l))∧bz (⟨[],0⟩:Ex).c+1≤4*(w.length+1+bI l)+(1+aK l):=⟨fun v=>by show bz 0+1≤_;rw[dX];omega,by show bz 0+1≤_;rw[dX];omega⟩
 by_cases hb:b=true
 ·rw[if_pos hb];unfold lA;split
  ·refine⟨fun v=>?_,by show bz 0+1≤_;rw[dX];omega⟩;simp only[ar];split
   ·rw[Rat.add_zero,uk];omega
   ·rw[Rat.add_zero,dX];omega
  ·exact⟨fun v=>by show bz 0+1≤_;rw[dX];omega,by dsimp only;omega⟩
 rw[if_neg hb,jY];have ih':∀ x∈l,(∀v,bz (ar (ak i x).1.t v)+1≤4*wX x+cX x)∧bz (ak i x).1.c+1≤4*wX x+cX x:=fun x hx=>ih x (by have:=(aO hx).1;omega);cases l with
 | nil=>exact hbad
 | cons h t=>
 rw[aA,aj]at*;rw[List.map_cons,oM];have hwp:=jd h;split
 ·unfold wC;split
  ·have key:∀ (t:List ST) (s:Ex×Bool) (B:Nat),(∀x∈t,(∀v,bz (ar (ak i x).1.t v)+1≤4*wX x+cX x)∧bz (ak i x).1.c+1≤4*wX x+cX x)→(∀v,bz (ar s.1.t v)≤B)→bz s.1.c≤B→(∀v,bz (ar ((t.map (ak i)).foldl (fun s x=>(eK s.1 x.1,s.2&&x.2)) s).1.t v)≤B+(4*bI t+aK t))∧bz ((t.map (ak i)).foldl (fun s x=>(eK s.1 x.1,s.2&&x.2)) s).1.c≤B+(4*bI t+aK t):=by
    intro t
    induction t with
    | nil=>intro s B _ h1 h2;rw[cT,bd];exact⟨fun v=>by have:=h1 v;simpa using this,by simpa using h2⟩
    | cons x r ihr=>
      intro s B hx h1 h2;obtain⟨q1,q2⟩:=hx x (by simp);have hr:=ihr (eK s.1 (ak i x).1,s.2&&(ak i x).2) (B+(4*wX x+cX x)) (fun y hy=>hx y (by simp[hy])) (fun v=>by
       have e1:=gQ (ar s.1.t v) (ar (ak i x).1.t v);have e2:=h1 v;have e3:=q1 v;show bz (ar (eK s.1 (ak i x).1).t v)≤_;rw[n7];omega) (by
       have e1:=gQ s.1.c (ak i x).1.c;show bz (s.1.c+(ak i x).1.c)≤_;omega)
      rw[List.map_cons,List.foldl_cons,aA,aj];exact⟨fun v=>by have:=hr.1 v;omega,by have:=hr.2;omega⟩
   have:=key t (⟨[],0⟩,true) 1 (fun x hx=>ih' x (by simp[hx])) (fun v=>by show bz 0≤1;rw[dX];exact Nat.le_refl _) (by show bz 0≤1;rw[dX];exact Nat.le_refl _);exact⟨fun v=>by have:=this.1 v;unfold k8;omega,by have:=this.2;unfold k8;omega⟩
  ·split
   ·match t,ih' with
    | [],_=>exact hbad
    | [x],ih'=>
      obtain⟨p1,p2⟩:=ih' x (by simp);rw[aA,cT,aj,bd];refine⟨fun v=>?_,?_⟩
      ·show bz (ar (cy (-1) (ak i x).1).t v)+1≤_;have e1:=dT (-1) (ar (ak i x).1.t v);rw[gK]at e1;have:=p1 v;rw[iq];omega
      ·show bz (-1*(ak i x).1.c)+1≤_;have e1:=dT (-1) (ak i x).1.c;rw[gK]at e1;omega
    | [x,y],ih'=>
      obtain⟨p1,p2⟩:=ih' x (by simp);obtain⟨r1,r2⟩:=ih' y (by simp);rw[aA,aA,cT,aj,aj,bd];refine⟨fun v=>?_,?_⟩
      ·show bz (ar (cH (ak i x).1 (ak i y).1).t v)+1≤_;have e1:=gQ (ar (ak i x).1.t v) (-(ar (ak i y).1.t v));rw[fC]at e1;have:=p1 v;have:=r1 v;rw[jT,Rat.sub_eq_add_neg];omega
      ·show bz (cH (ak i x).1 (ak i y).1).c+1≤_;have e1:=gQ (ak i x).1.c (-(ak i y).1.c);rw[fC]at e1;rw[nF,Rat.sub_eq_add_neg];omega
    | _::_::_::_,_=>exact hbad
   ·split
    ·match t,ih' with
     | [],_=>exact hbad
     | [x],_=>exact hbad
     | [x,y],ih'=>
       obtain⟨r1,r2⟩:=ih' y (by simp);have hn:bz (aZ x).1≤4*x.w.length+4:=dO x.w;have hx:=jB x;rw[aA,aA,cT,aj,aj,bd];refine⟨fun v=>?_,?_⟩
       ·show bz (ar (cy (aZ x).1 (ak i y).1).t v)+1≤_;have e1:=dT (aZ x).1 (ar (ak i y).1.t v);have:=r1 v;rw[iq];omega
       ·show bz ((aZ x).1*(ak i y).1.c)+1≤_;have e1:=dT (aZ x).1 (ak i y).1.c;omega
     | _::_::_::_,_=>exact hbad
    ·exact hbad
 ·exact hbad
end Go.Proofs.YthdkkpocihkgbaaGreatDoor
namespace Go.Proofs.YthdkkpocihkgbaaGreatDoor
open Go.RowKit
attribute [local irreducible] AC Do St
theorem xh(i:Int)(w:List UInt8):Fn Tryz.prog 201 [.d (.v (.string (tx w))),.d (.v (.int .i64 i))] [.d (.v (.int .i64 (ey i w).1)),.d (.v (.bool (ey i w).2))]:=by
 cases w with
 | nil=>
   have hl0:([]:List UInt8).length=0:=rfl;refine Fn.of Tryz.func201 rfl (by kernel_rfl) Tryz.ntmps201 Tryz.results201 rfl fun w0 S0=>?_;refine wa ?_;exact⟨.d rfl (.inl rfl),.d rfl (.inl rfl),trivial⟩
 | cons c t=>
 have hl:(c::t).length=t.length+1:=List.length_cons ..;have hc0:(c::t)[0]?=some c:=rfl;have hcb:=UInt8.toNat_lt c;have hbad:∀ (h:t.length<1∨6<t.length∨(c.toNat≠120∧c.toNat≠121)∨(t.head?=some 48∧1<t.length)),ey i (c::t)=(0,false):=fun h=>by
  show (if _ then _ else _)=_;rw[if_pos h]
 by_cases k1:t.length<1
 ·rw[hbad (.inl k1)];refine Fn.of Tryz.func201 rfl (by kernel_rfl) Tryz.ntmps201 Tryz.results201 rfl fun w0 S0=>?_;refine wa ?_;exact⟨.d rfl (.inl rfl),.d rfl (.inl rfl),trivial⟩
 by_cases k2:6<t.length
 ·rw[hbad (.inr (.inl k2))];refine Fn.of Tryz.func201 rfl (by kernel_rfl) Tryz.ntmps201 Tryz.results201 rfl fun w0 S0=>?_;refine wa ?_;exact⟨.d rfl (.inl rfl),.d rfl (.inl rfl),trivial⟩
 by_cases k3:c.toNat≠120∧c.toNat≠121
 ·rw[hbad (.inr (.inr (.inl k3)))];obtain⟨g1,g2⟩:=k3;refine Fn.of Tryz.func201 rfl (by kernel_rfl) Tryz.ntmps201 Tryz.results201 rfl fun w0 S0=>?_;refine wa ?_;exact⟨.d rfl (.inl rfl),.d rfl (.inl rfl),trivial⟩
 obtain⟨d,r,rfl⟩:∃ d r,t=d::r:=by
  cases t with
  | nil=>exact absurd (by simp) k1
  | cons d r=>exact⟨d,r,rfl⟩
 have hd1:(c::d::r)[1]?=some d:=rfl;have hdb:=UInt8.toNat_lt d;have hl2:(d::r).length=r.length+1:=List.length_cons ..;have e48:(d=48)=(d.toNat=48):=propext ⟨fun h=>by rw[h];rfl,fun h=>UInt8.toNat_inj.1 h⟩;have k4:c.toNat=120∨c.toNat=121:=by omega
 by_cases k5:d.toNat=48∧1<(d::r).length
 ·rw[hbad (.inr (.inr (.inr ⟨by rw[List.head?_cons,Option.some.injEq,e48];exact k5.1,k5.2⟩)))];obtain⟨g1,g2⟩:=k5;rcases k4 with k4 | k4
  all_goals
   refine Fn.of Tryz.func201 rfl (by kernel_rfl) Tryz.ntmps201 Tryz.results201 rfl fun w0 S0=>?_;refine wa ?_;exact⟨.d rfl (.inl rfl),.d rfl (.inl rfl),trivial⟩
 have hV:ey i (c::d::r)=if ∀x∈d::r,bD x then(if c.toNat=121 then(IntKind.i64.wrap (i+(aR 0 (d::r):Int)),true)else((aR 0 (d::r):Int),decide ((aR 0 (d::r):Int)<i)))else(0,false):=by
  show (if _ then _ else _)=_;rw[if_neg (fun h=>by
   rcases h with h | h | h | ⟨h,h'⟩
   ·exact k1 h
   ·exact k2 h
   ·exact k3 h
   ·rw[List.head?_cons,Option.some.injEq,e48]at h;exact k5 ⟨h,h'⟩)]
 have hlen:(d::r).length≤6:=by omega
 clear hbad;rw[hV];have hc1:∀ j,(c::d::r)[j+1]?=(d::r)[j]?:=fun j=>rfl;have hl3:(c::d::r).length=(d::r).length+1:=rfl;generalize hw:c::d::r=w at*;generalize ht:d::r=t at*;have loop:∀ j,j≤t.length→(∀y∈t.take j,bD y)→10^(t.take j).length≤10^6:=fun j _ _=>Nat.pow_le_pow_right (by decide) (by rw[List.length_take];omega);by_cases k6:d.toNat=48
 all_goals
  rcases k4 with k4 | k4
  all_goals
   refine Fn.of Tryz.func201 rfl (by kernel_rfl) Tryz.ntmps201 Tryz.results201 rfl fun w0 S0=>?_;refine wa ?_;refine AC.loop (X:=Nat) (fun j=>⟨[(0,.d (.v (.string (tx w)))),(1,.d (.v (.int .i64 i))),(6,.d (.v (.int .i64 ((aR 0 (t.take j):Nat):Int)))),(7,.d (.v (.int .i64 ((j+1:Nat):Int))))],[]⟩) (fun j=>j≤t.length∧∀ y∈t.take j,bD y) (fun j=>t.length-j) 0 ⟨Nat.zero_le _,by simp⟩ ⟨rfl,rfl,rfl,rfl,trivial⟩ trivial ?_;intro j ⟨hj,hdg⟩;dsimp only;have hvl:=mg (t.take j) hdg 0;have hp10:=loop j hj hdg;by_cases h1:j<t.length
   ·have hg:=hc1 j;rw[List.getElem?_eq_getElem h1]at hg;have htk:=lz (List.getElem?_eq_getElem h1) 0;have hds:bD t[j]→∀ x∈t.take (j+1),bD x:=fun h x hx=>by
     rw[List.take_succ_eq_append_getElem h1]at hx;rcases List.mem_append.1 hx with h2 | h2
     ·exact hdg x h2
     ·rw[List.mem_singleton.1 h2];exact h
    have hdn:¬ bD t[j]→¬ ∀c∈t,bD c:=fun h h2=>h (h2 _ (List.getElem_mem h1));generalize t[j]=e at hg htk hds hdn;have hcl:=e.toNat_lt;by_cases hlo:e.toNat<48
    ·rw[if_neg (hdn (by unfold bD;omega))];refine wa ?_;exact⟨.d rfl (.inl rfl),.d rfl (.inl rfl),trivial⟩
    by_cases hhi:57<e.toNat
    ·rw[if_neg (hdn (by unfold bD;omega))];refine wa ?_;exact⟨.d rfl (.inl rfl),.d rfl (.inl rfl),trivial⟩
    refine wa ?_;exact⟨j+1,⟨h1,hds (by unfold bD;omega)⟩,by omega,⟨rfl,rfl,by dsimp only;rw[htk];exact sT (by omega),rfl,trivial⟩,trivial⟩
   ·rw[List.take_of_length_le (by omega)]at hdg hvl ⊢;rw[if_pos hdg]
    first
     | (rw[if_pos k4]
        refine wa ?_;((try (first | intro K ms hms hK | intro K hK));(first | apply Ch.go | apply Ch.ah);exact rfl;exact rfl;exact Loc.Dy rfl rfl rfl);refine wa ?_;exact⟨.d rfl (.inl rfl),.d rfl (.inl rfl),trivial⟩)
     | (rw[if_neg (by omega)]
        by_cases h2:(aR 0 t:Int)<i
        ·rw[decide_eq_true h2];refine wa ?_;exact⟨.d rfl (.inl rfl),.d rfl (.inl rfl),trivial⟩
        ·rw[decide_eq_false h2];refine wa ?_;exact⟨.d rfl (.inl rfl),.d rfl (.inl rfl),trivial⟩)
theorem EP:Fn Tryz.prog 60 [.d (.v (.int .i64 0))] [.g (aS 0)]:=by
 have:=pB 0 (by decide) (by decide);rwa[show (((0:Int):Int):Rat)=0 from rfl]at this
theorem mG(s:ST)(hw:s.w.length≤20000):Fn Tryz.prog 96 [.g (aq s)] [.g (aS (cd s).1),.d (.v (.bool (cd s).2))]:=by
 have h0:=EP;have hp:=zc s.w hw;unfold cd;cases hb:s.b with
 | false=>
   rw[if_neg (by decide)];clear hp;have hx:aq s=[.v (.bool false),.v (.string (tx s.w)),.l (iL s)]:=by unfold aq;rw[hb]
   rw[hx];refine Fn.of Tryz.func96 rfl (by kernel_rfl) Tryz.ntmps96 Tryz.results96 rfl fun w0 S0=>?_;refine wa ?_;exact⟨.cn rfl rfl inferInstance rfl ⟨.inl rfl,.inl rfl,.inl rfl,trivial⟩,.d rfl (.inl rfl),trivial⟩
 | true=>
   rw[if_pos rfl];have hx:aq s=[.v (.bool true),.v (.string (tx s.w)),.l (iL s)]:=by unfold aq;rw[hb]
   rw[hx];cases hq:aX s.w with
   | none=>
     rw[hq]at hp;unfold zF at hp;refine Fn.of Tryz.func96 rfl (by kernel_rfl) Tryz.ntmps96 Tryz.results96 rfl fun w0 S0=>?_;refine wa ?_;exact⟨.cn rfl rfl inferInstance rfl ⟨.inl rfl,.inl rfl,.inl rfl,trivial⟩,.d rfl (.inl rfl),trivial⟩
   | some q=>
     rw[hq]at hp;unfold zF at hp;refine Fn.of Tryz.func96 rfl (by kernel_rfl) Tryz.ntmps96 Tryz.results96 rfl fun w0 S0=>?_;refine wa ?_;exact⟨.cn rfl rfl inferInstance rfl ⟨.inl rfl,.inl rfl,.inl rfl,trivial⟩,.d rfl (.inl rfl),trivial⟩
end Go.Proofs.YthdkkpocihkgbaaGreatDoor
namespace Go.Proofs.YthdkkpocihkgbaaGreatDoor
open Go.RowKit
attribute [local irreducible] AC Do St
def zi:List D:=[.v (.bool false),.l [],.l []]
theorem yG:bp (bits 0)= .l []:=by rw[kp];rfl
theorem oS:(bits 0).length=0:=by rw[kp];rfl
theorem qN:(bits 1).length≤1:=bT (by decide)
theorem CN:Fn Tryz.prog 125 [.g zi] [.d (bp (bits 1))]:=by
 have h:=kn 1 (by decide);have h0:([]:List (List D)).length=0:=rfl;refine Fn.of Tryz.func125 rfl (by kernel_rfl) Tryz.ntmps125 Tryz.results125 rfl fun w0 S0=>?_;refine wa ?_;exact⟨.d rfl (.inl rfl),trivial⟩
theorem xk{k n:Nat}(h:n<2^k)(hk:k≤50000000):(bits n).length≤50000000:=Nat.le_trans (bT h) hk
theorem Ei{k:Nat}{q:Rat}(h:Bd k q)(hk:k≤50000000):Fn Tryz.prog 61 [.g zi,.g (aS q)] [.g (aS (0+q))]:=by
 have hn:=xk h.1 hk;have hd:=xk h.2 hk;have l1:=po q;have l0:=CN;have m1:Fn Tryz.prog 124 [.d (.l []),.d (bp (bits q.den))] [.d (bp (bits (0*q.den)))]:=by
  have:=jD 0 q.den (by rw[oS];omega);rwa[yG]at this
 have m2:=jD q.num.natAbs 1 (by have:=qN;omega);have m3:=jD 1 q.den (by have:=qN;omega);have hs:=CI false (decide (q.num<0)) (0*q.den) (q.num.natAbs*1) (by rw[Nat.zero_mul,oS];omega) (by rw[Nat.mul_one];omega);have hsz:(cM false (0*q.den) (decide (q.num<0)) (q.num.natAbs*1)).2=q.num.natAbs:=by
  unfold cM;rw[Nat.zero_mul,Nat.mul_one];split
  ·exact Nat.zero_add _
  ·split
   ·rename_i hh;dsimp only;omega
   ·dsimp only;omega
 have ho:=oX (cM false (0*q.den) (decide (q.num<0)) (q.num.natAbs*1)).1 (cM false (0*q.den) (decide (q.num<0)) (q.num.natAbs*1)).2 (1*q.den) (by rw[hsz];omega) (by rw[Nat.one_mul];omega) (by rw[Nat.one_mul];exact q.den_pos);have he:(0:Rat)+q=mkRat (bH (cM false (0*q.den) (decide (q.num<0)) (q.num.natAbs*1)).1 (cM false (0*q.den) (decide (q.num<0)) (q.num.natAbs*1)).2) (1*q.den):=lO (a:=0) (b:=q) rfl rfl rfl rfl rfl rfl;rw[he];generalize cM false (0*q.den) (decide (q.num<0)) (q.num.natAbs*1)=sm at*;refine Fn.of Tryz.func61 rfl (by kernel_rfl) Tryz.ntmps61 Tryz.results61 rfl fun w0 S0=>?_;refine wa ?_;refine c1 l1 ?_;refine wa ?_;refine c1 m1 ?_;refine wa ?_;refine c1 m2 ?_;refine wa ?_;refine c1 l1 ?_;refine wa ?_;exact⟨.cn rfl rfl inferInstance rfl ⟨.inl rfl,.inl rfl,.inl rfl,trivial⟩,trivial⟩
theorem DG{k:Nat}{p:Rat}(h:Bd k p)(hk:k≤50000000):Fn Tryz.prog 62 [.g (aS p),.g zi] [.g (aS (p*0))]:=by
 have hn:=xk h.1 hk;have hd:=xk h.2 hk;have l1:=po p;have l0:=CN;have m1:Fn Tryz.prog 124 [.d (bp (bits p.num.natAbs)),.d (.l [])] [.d (bp (bits (p.num.natAbs*0)))]:=by
  have:=jD p.num.natAbs 0 (by rw[oS];omega);rwa[yG]at this
 have m2:=jD p.den 1 (by have:=qN;omega);have ho:=oX (decide (p.num<0) != false) (p.num.natAbs*0) (p.den*1) (by rw[Nat.mul_zero,oS];omega) (by rw[Nat.mul_one];omega) (by rw[Nat.mul_one];exact p.den_pos);have he:p*(0:Rat)=mkRat (bH (decide (p.num<0) != false) (p.num.natAbs*0)) (p.den*1):=lK (a:=p) (b:=0) rfl rfl rfl rfl rfl rfl;rw[he];refine Fn.of Tryz.func62 rfl (by kernel_rfl) Tryz.ntmps62 Tryz.results62 rfl fun w0 S0=>?_;refine wa ?_;refine c1 m1 ?_;refine wa ?_;refine c1 l1 ?_;refine wa ?_;exact⟨.cn rfl rfl inferInstance rfl ⟨.inl rfl,.inl rfl,.inl rfl,trivial⟩,trivial⟩
def oN:Option Rat→D
 | none=> .v (.bool false)
 | some q=> .v (.bool (decide (q.num<0)))
def oA:Option Rat→D
 | none=> .l []
 | some q=>bp (bits q.num.natAbs)
def oB:Option Rat→D
 | none=> .l []
 | some q=>bp (bits q.den)
def ia(o:Option Rat):List D:=[oN o,oA o,oB o]
def vO(o:Option Rat):Rat:=o.getD 0
theorem FC{k:Nat}{q:Rat}(o:Option Rat)(ho:bz (vO o)+k≤50000000)(h:Bd k q):Fn Tryz.prog 61 [.g (ia o),.g (aS q)] [.g (aS (vO o+q))]:=by
 cases o with
 | none=>exact Ei h (by omega)
 | some p=>exact tA (bw p) h ho
theorem Fq{k:Nat}{p:Rat}(o:Option Rat)(ho:k+bz (vO o)≤50000000)(h:Bd k p):Fn Tryz.prog 62 [.g (aS p),.g (ia o)] [.g (aS (p*vO o))]:=by
 cases o with
 | none=>exact DG h (by omega)
 | some q=>exact tl h (bw q) ho
