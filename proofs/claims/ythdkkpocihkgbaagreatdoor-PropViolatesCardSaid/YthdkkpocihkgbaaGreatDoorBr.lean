import Derived.Test.YthdkkpocihkgbaaGreatDoorK3
import Derived.Test.YthdkkpocihkgbaaGreatDoorLawR
namespace Go.Proofs.YthdkkpocihkgbaaGreatDoor
open Go.RowKit
section
variable {α:Type}{R:Rp α}{enc:α→Value}{ok:α→Prop}{S:Nat→Prop}{w:World}
theorem One.toRD(O:One R enc ok)(h1:∀ x,(enc x).oneCell'=true){v:Value}{xs:List α}(h:(Rp.slice R).rel S w [v] xs):RD S w v (.l (xs.map fun x=>[.v (enc x)])):=by
 obtain⟨a,c,e,h2,h3,h4⟩:=h;injection e with e;subst e;refine RD.ofCells (k:=1) (css:=xs.map fun x=>[enc x]) (by simp) h2 h3 (by simp) (fun i h=>by simp) (fun i h h'=>?_) (fun hp=>?_)
 ·simp only[List.getElem_map];exact .cons (.v (h1 _)) .nil
 ·obtain⟨b,o,ha,hb,hel⟩:=h4 hp;refine⟨b,o,ha,hb,fun i hi j v hv=>?_⟩;have hi':i<xs.length:=by simpa using hi
  obtain⟨es,hr,hc⟩:=hel i hi';obtain⟨rfl,_⟩:=O.rel.1 hr;simp only[List.getElem_map]at hv;have hj:j=0:=by
   have:=(List.getElem?_eq_some_iff.1 hv).1;simpa using this
  subst hj;have:=hc 0 (by simp);rw[O.k]at this;simp only[List.getElem?_cons_zero,Option.some.injEq]at hv;subst hv;simpa[Nat.add_assoc] using this
theorem One.ofRD(O:One R enc ok){v:Value}{xs:List α}(h:RD S w v (.l (xs.map fun x=>[.v (enc x)])))(hok:∀ x∈xs,ok x):(Rp.slice R).rel S w [v] xs:=by
 cases v with
 | slice a n c=>
   obtain⟨hn,hc,hm,k,css,hl,hk,hr,ha⟩:=RD.cells h;have hlx:n=xs.length:=by simpa using hn
   subst hlx;refine⟨a,c,rfl,hc,hm,fun hp=>?_⟩;obtain⟨b,o,e,hb,hcell⟩:=ha hp;refine⟨b,o,e,hb,fun i hi=>?_⟩;have hk1:k=1:=by rw[←hk i (by simpa using hi)];simp
   subst hk1;have hi':i<css.length:=by rw[hl];simpa using hi
   have hrr:=hr i hi' (by simpa using hi);simp only[List.getElem_map]at hrr;obtain⟨u,h1,h2⟩:=hrr.at (i:=0) rfl;have h2':u=enc xs[i]:=by cases h2;rfl
   refine⟨[enc xs[i]],O.rel.2 ⟨rfl,hok _ (List.getElem_mem hi)⟩,fun j hj=>?_⟩;have hj:j=0:=by simpa using hj
   subst hj;rw[O.k];have:=hcell i hi' 0 u h1;rw[h2']at this;simpa[Nat.add_assoc] using this
 | _=>cases h
end
def enL(l:List Nat):D:= .l (l.map fun c=>[.v (encU c)])
def enB(l:List Bool):D:= .l (l.map fun b=>[.v (encB b)])
def enR(q:Rat):List D:=[.v (.bool (decide (q.num<0))),enL (limbs q.num.natAbs),enL (denL q.den)]
def enQ(q:Rat):List D:=[.v (.bool (decide (q.num<0))),enB (bits q.num.natAbs),enB (bits q.den)]
section
variable {S:Nat→Prop}{w:World}{v:Value}{q:Rat}
theorem denL_dg(d:Nat):∀ x∈denL d,x<4294967296:=by
 unfold denL;split
 ·simp
 ·exact limbs_dg d
theorem RatV.toRV(h:RatV S w v q):RV S w v (.g (enR q)):=by
 obtain⟨a,c,a',c',rfl,h1,h2⟩:=h;exact⟨[_,_,_],rfl,.cons (.v rfl) (.cons (oneU.toRD (fun _=>rfl) h1) (.cons (oneU.toRD (fun _=>rfl) h2) .nil))⟩
theorem RV3{x y z:D}(h:RV S w v (.g [x,y,z])):∃ a b c,v= .agg #[a,b,c]∧RD S w a x∧RD S w b y∧RD S w c z:=by
 obtain⟨us,rfl,h⟩:=h
 match us,h with
 | [a,b,c],h=>exact⟨a,b,c,rfl,h.2 0 (by simp) (by simp),h.2 1 (by simp) (by simp),h.2 2 (by simp) (by simp)⟩
 | [],h=>exact absurd h.1 (by simp)
 | [_],h=>exact absurd h.1 (by simp)
 | [_,_],h=>exact absurd h.1 (by simp)
 | _::_::_::_::_,h=>exact absurd h.1 (by simp)
theorem RatV.ofRV(h:RV S w v (.g (enR q))):RatV S w v q:=by
 obtain⟨a,b,c,rfl,h1,h2,h3⟩:=RV3 h;cases h1;obtain⟨a1,c1,e1,q1⟩:=id (oneU.ofRD h2 (fun x hx=>limbs_dg _ x hx));obtain⟨a2,c2,e2,q2⟩:=id (oneU.ofRD h3 (fun x hx=>denL_dg _ x hx));injection e1 with e1;injection e2 with e2;subst e1 e2;exact⟨a1,c1,a2,c2,rfl,⟨a1,c1,rfl,q1⟩,⟨a2,c2,rfl,q2⟩⟩
theorem RatB.toRV(h:RatB S w v q):RV S w v (.g (enQ q)):=by
 obtain⟨a,c,a',c',rfl,h1,h2⟩:=h;exact⟨[_,_,_],rfl,.cons (.v rfl) (.cons (oneB.toRD (fun _=>rfl) h1) (.cons (oneB.toRD (fun _=>rfl) h2) .nil))⟩
theorem RatB.ofRV(h:RV S w v (.g (enQ q))):RatB S w v q:=by
 obtain⟨a,b,c,rfl,h1,h2,h3⟩:=RV3 h;cases h1;obtain⟨a1,c1,e1,q1⟩:=id (oneB.ofRD h2 (fun _ _=>trivial));obtain⟨a2,c2,e2,q2⟩:=id (oneB.ofRD h3 (fun _ _=>trivial));injection e1 with e1;injection e2 with e2;subst e1 e2;exact⟨a1,c1,a2,c2,rfl,⟨a1,c1,rfl,q1⟩,⟨a2,c2,rfl,q2⟩⟩
theorem RVs.one{us:List Value}{x:DV}(h:RVs S w us [x]):∃ u,us=[u]∧RV S w u x:=by
 match us,h with
 | [u],h=>exact⟨u,rfl,h.2 0 (by simp) (by simp)⟩
 | [],h=>exact absurd h.1 (by simp)
 | _::_::_,h=>exact absurd h.1 (by simp)
theorem RVs.two{us:List Value}{x y:DV}(h:RVs S w us [x,y]):∃ u v,us=[u,v]∧RV S w u x∧RV S w v y:=by
 match us,h with
 | [u,v],h=>exact⟨u,v,rfl,h.2 0 (by simp) (by simp),h.2 1 (by simp) (by simp)⟩
 | [],h=>exact absurd h.1 (by simp)
 | [_],h=>exact absurd h.1 (by simp)
 | _::_::_::_,h=>exact absurd h.1 (by simp)
theorem RVs.three{us:List Value}{x y z:DV}(h:RVs S w us [x,y,z]):∃ u v t,us=[u,v,t]∧RV S w u x∧RV S w v y∧RV S w t z:=by
 match us,h with
 | [u,v,t],h=>exact⟨u,v,t,rfl,h.2 0 (by simp) (by simp),h.2 1 (by simp) (by simp),h.2 2 (by simp) (by simp)⟩
 | [],h=>exact absurd h.1 (by simp)
 | [_],h=>exact absurd h.1 (by simp)
 | [_,_],h=>exact absurd h.1 (by simp)
 | _::_::_::_::_,h=>exact absurd h.1 (by simp)
end
abbrev Res(S:Nat→Prop)(w w':World):Nat→Prop:=fun b=>(S b∨w.heap.size≤b)∧b<w'.heap.size
theorem mo_res{S:Nat→Prop}{w w':World}:∀ b,Mo no w.heap.size w' b→Res S w w' b:=fun _ hb=>⟨.inr (hb.1.resolve_left id),hb.2⟩
theorem RV.mono{S S':Nat→Prop}{w:World}{u:Value}{x:DV}(h:RV S w u x)(hs:∀ b,S b→S' b):RV S' w u x:=h.keep fun b hb=>⟨hs b hb,rfl⟩
section
variable {k m:Nat}{p q:Rat}
theorem ratAdd(h1:Bd k p)(h2:Bd m q)(hk:k+m≤50000000):Fn Tryz.prog 114 [.g (enR p),.g (enR q)] [.g (enR (p+q))]:=
 ⟨⟨_,Tryz.func114,by kernel_rfl,by kernel_rfl⟩,fun S w vs hS hv=>by
   obtain⟨u,v,rfl,ha,hb⟩:=hv.two;refine(addR_any u v p q w k m ((RatV.ofRV ha).mono hS) ((RatV.ofRV hb).mono hS) h1 h2 hk).mono ?_;rintro e w' ⟨r,rfl,hx,hr⟩;exact⟨r,rfl,hx,(hr.mono mo_res).toRV⟩⟩
theorem ratMul(h1:Bd k p)(h2:Bd m q)(hk:k+m≤50000000):Fn Tryz.prog 115 [.g (enR p),.g (enR q)] [.g (enR (p*q))]:=
 ⟨⟨_,Tryz.func115,by kernel_rfl,by kernel_rfl⟩,fun S w vs hS hv=>by
   obtain⟨u,v,rfl,ha,hb⟩:=hv.two;refine(mulR_any u v p q w k m ((RatV.ofRV ha).mono hS) ((RatV.ofRV hb).mono hS) h1 h2 hk).mono ?_;rintro e w' ⟨r,rfl,hx,hr⟩;exact⟨r,rfl,hx,(hr.mono mo_res).toRV⟩⟩
theorem ratCmp(h1:Bd k p)(h2:Bd m q)(hk:k+m≤50000000):Fn Tryz.prog 51 [.g (enR p),.g (enR q)] [.d (.v (.int .i64 (sgnR (p-q))))]:=
 ⟨⟨_,Tryz.func51,by kernel_rfl,by kernel_rfl⟩,fun S w vs hS hv=>by
   obtain⟨u,v,rfl,ha,hb⟩:=hv.two;refine(cmpR_any u v p q w k m ((RatV.ofRV ha).mono hS) ((RatV.ofRV hb).mono hS) h1 h2 hk).mono ?_;rintro e w' ⟨rfl,hx⟩;exact⟨_,rfl,hx,RD.v rfl⟩⟩
theorem ratSign(p:Rat):Fn Tryz.prog 103 [.g (enR p)] [.d (.v (.int .i64 (sgnR p)))]:=
 ⟨⟨_,Tryz.func103,by kernel_rfl,by kernel_rfl⟩,fun S w vs hS hv=>by
   obtain⟨u,rfl,ha⟩:=hv.one;refine(sign_any u p w S (RatV.ofRV ha)).mono ?_;rintro e w' ⟨rfl,hx⟩;exact⟨_,rfl,hx,RD.v rfl⟩⟩
theorem ratNeg(p:Rat):Fn Tryz.prog 161 [.g (enR p)] [.g (enR (-p))]:=
 ⟨⟨_,Tryz.func161,by kernel_rfl,by kernel_rfl⟩,fun S w vs hS hv=>by
   obtain⟨u,rfl,ha⟩:=hv.one;refine(neg_any u p w S hS (RatV.ofRV ha)).mono ?_;rintro e w' ⟨r,rfl,hx,hr⟩;exact⟨r,rfl,hx,hr.toRV⟩⟩
theorem ratInt(n:Int)(h0: -9223372036854775808≤n)(h1:n≤9223372036854775807):Fn Tryz.prog 50 [.d (.v (.int .i64 n))] [.g (enR n)]:=
 ⟨⟨_,Tryz.func50,by kernel_rfl,by kernel_rfl⟩,fun S w vs hS hv=>by
   obtain⟨u,rfl,ha⟩:=hv.one;have:u= .int .i64 n:=by cases ha;rfl
   subst this;refine(intR_any n w h0 h1).mono ?_;rintro e w' ⟨r,rfl,hx,hr⟩;exact⟨r,rfl,hx,(hr.mono mo_res).toRV⟩⟩
theorem ratMake(neg:Bool)(l m:List Nat)(hl:l.length≤100000000)(hm:m.length≤100000000)(hy:0<dval 4294967296 m)(hdl:∀ x∈l,x<4294967296)(hdm:∀ x∈m,x<4294967296):
  Fn Tryz.prog 166 [.d (.v (.bool neg)),.d (enL l),.d (enL m)] [.g (enR (mkRat (sgn neg (dval 4294967296 l)) (dval 4294967296 m))),.d (.v (.bool true))]:=
 ⟨⟨_,Tryz.func166,by kernel_rfl,by kernel_rfl⟩,fun S w vs hS hv=>by
   obtain⟨u,v,t,rfl,h1,h2,h3⟩:=hv.three;have:u= .bool neg:=by cases h1;rfl
   subst this;have q1:=oneU.ofRD (RD.mono h2 hS) hdl;have q2:=oneU.ofRD (RD.mono h3 hS) hdm;obtain⟨a1,c1,e1,_⟩:=id q1;obtain⟨a2,c2,e2,_⟩:=id q2;injection e1 with e1;injection e2 with e2;subst e1 e2;refine(make_any neg l m a1 a2 _ _ c1 c2 w q1 q2 hl hm hy).mono ?_;rintro e w' ⟨r,rfl,hx,hr⟩;refine⟨_,rfl,hx,[r,.bool true],rfl,rfl,fun i h h'=>?_⟩
   match i,h with
   | 0,_=>exact(hr.mono mo_res).toRV
   | 1,_=>exact RD.v rfl⟩
theorem qAdd(h1:Bd k p)(h2:Bd m q)(hk:k+m≤50000000):Fn Tryz.prog 61 [.g (enQ p),.g (enQ q)] [.g (enQ (p+q))]:=
 ⟨⟨_,Tryz.func61,by kernel_rfl,by kernel_rfl⟩,fun S w vs hS hv=>by
   obtain⟨u,v,rfl,ha,hb⟩:=hv.two;refine(addRB_any u v p q w k m ((RatB.ofRV ha).mono hS) ((RatB.ofRV hb).mono hS) h1 h2 hk).mono ?_;rintro e w' ⟨r,rfl,hx,hr⟩;exact⟨r,rfl,hx,(hr.mono mo_res).toRV⟩⟩
theorem qMul(h1:Bd k p)(h2:Bd m q)(hk:k+m≤50000000):Fn Tryz.prog 62 [.g (enQ p),.g (enQ q)] [.g (enQ (p*q))]:=
 ⟨⟨_,Tryz.func62,by kernel_rfl,by kernel_rfl⟩,fun S w vs hS hv=>by
   obtain⟨u,v,rfl,ha,hb⟩:=hv.two;refine(mulRB_any u v p q w k m ((RatB.ofRV ha).mono hS) ((RatB.ofRV hb).mono hS) h1 h2 hk).mono ?_;rintro e w' ⟨r,rfl,hx,hr⟩;exact⟨r,rfl,hx,(hr.mono mo_res).toRV⟩⟩
theorem qCmp(h1:Bd k p)(h2:Bd m q)(hk:k+m≤50000000):Fn Tryz.prog 58 [.g (enQ p),.g (enQ q)] [.d (.v (.int .i64 (sgnR (p-q))))]:=
 ⟨⟨_,Tryz.func58,by kernel_rfl,by kernel_rfl⟩,fun S w vs hS hv=>by
   obtain⟨u,v,rfl,ha,hb⟩:=hv.two;refine(cmpRB_any u v p q w k m ((RatB.ofRV ha).mono hS) ((RatB.ofRV hb).mono hS) h1 h2 hk).mono ?_;rintro e w' ⟨rfl,hx⟩;exact⟨_,rfl,hx,RD.v rfl⟩⟩
theorem qSign(p:Rat):Fn Tryz.prog 63 [.g (enQ p)] [.d (.v (.int .i64 (sgnR p)))]:=
 ⟨⟨_,Tryz.func63,by kernel_rfl,by kernel_rfl⟩,fun S w vs hS hv=>by
   obtain⟨u,rfl,ha⟩:=hv.one;refine(signB_any u p w S (RatB.ofRV ha)).mono ?_;rintro e w' ⟨rfl,hx⟩;exact⟨_,rfl,hx,RD.v rfl⟩⟩
theorem qInt(n:Int)(h0: -9223372036854775808≤n)(h1:n≤9223372036854775807):Fn Tryz.prog 60 [.d (.v (.int .i64 n))] [.g (enQ n)]:=
 ⟨⟨_,Tryz.func60,by kernel_rfl,by kernel_rfl⟩,fun S w vs hS hv=>by
   obtain⟨u,rfl,ha⟩:=hv.one;have:u= .int .i64 n:=by cases ha;rfl
   subst this;refine(intB_any n w h0 h1).mono ?_;rintro e w' ⟨r,rfl,hx,hr⟩;exact⟨r,rfl,hx,(hr.mono mo_res).toRV⟩⟩
theorem qOf(neg:Bool)(x y:Nat)(hl:(bits x).length≤100000000)(hm:(bits y).length≤100000000)(hy:0<y):Fn Tryz.prog 120 [.d (.v (.bool neg)),.d (enB (bits x)),.d (enB (bits y))] [.g (enQ (mkRat (sgn neg x) y))]:=
 ⟨⟨_,Tryz.func120,by kernel_rfl,by kernel_rfl⟩,fun S w vs hS hv=>by
   obtain⟨u,v,t,rfl,h1,h2,h3⟩:=hv.three;have:u= .bool neg:=by cases h1;rfl
   subst this;have q1:=oneB.ofRD h2 (fun _ _=>trivial);have q2:=oneB.ofRD h3 (fun _ _=>trivial);obtain⟨a1,c1,e1,_⟩:=id q1;obtain⟨a2,c2,e2,_⟩:=id q2;injection e1 with e1;injection e2 with e2;subst e1 e2;refine(ofR_any neg x y a1 a2 _ _ c1 c2 w S hS q1 q2 hl hm hy).mono ?_;rintro e w' ⟨r,rfl,hx,hr⟩;exact⟨r,rfl,hx,hr.toRV⟩⟩
theorem bitsOf(l:List Nat)(hl:l.length≤10000000)(hd:∀ x∈l,x<4294967296):Fn Tryz.prog 119 [.d (enL l)] [.d (enB (bits (dval 4294967296 l)))]:=
 ⟨⟨_,Tryz.func119,by kernel_rfl,by kernel_rfl⟩,fun S w vs hS hv=>by
   obtain⟨u,rfl,ha⟩:=hv.one;have q1:=oneU.ofRD (RD.mono ha hS) hd;obtain⟨a1,c1,e1,_⟩:=id q1;injection e1 with e1;subst e1;refine(ofB_any l a1 _ c1 w q1 hl).mono ?_;rintro e w' ⟨a,c,rfl,hx,hr⟩;refine⟨_,rfl,hx,?_⟩;exact RD.mono (oneB.toRD (fun _=>rfl) hr) mo_res⟩
theorem told(h1:Bd k p)(hk:k≤10000000):Fn Tryz.prog 59 [.g (enR p)] [.g (enQ p)]:=
 ⟨⟨_,Tryz.func59,by kernel_rfl,by kernel_rfl⟩,fun S w vs hS hv=>by
   obtain⟨u,rfl,ha⟩:=hv.one;refine(told_any u p w k ((RatV.ofRV ha).mono hS) h1 hk).mono ?_;rintro e w' ⟨r,rfl,hx,hr⟩;exact⟨r,rfl,hx,(hr.mono mo_res).toRV⟩⟩
theorem few(l:List Nat)(hd:∀ x∈l,x<4294967296):Fn Tryz.prog 165 [.d (enL l)] [.d (enL (l.take 8))]:=
 ⟨⟨_,Tryz.func165,by kernel_rfl,by kernel_rfl⟩,fun S w vs hS hv=>by
   obtain⟨u,rfl,ha⟩:=hv.one;have q1:=oneU.ofRD (RD.mono ha hS) hd;obtain⟨a1,c1,e1,_⟩:=id q1;injection e1 with e1;subst e1;refine(few_any l a1 _ c1 w q1).mono ?_;rintro e w' ⟨a,c,rfl,hx,hr⟩;exact⟨_,rfl,hx,RD.mono (oneU.toRD (fun _=>rfl) hr) mo_res⟩⟩
end
end Go.Proofs.YthdkkpocihkgbaaGreatDoor
