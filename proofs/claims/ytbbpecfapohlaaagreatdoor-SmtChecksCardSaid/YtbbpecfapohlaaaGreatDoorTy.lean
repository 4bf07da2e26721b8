import Derived.Test.YtbbpecfapohlaaaGreatDoorBitsW
import Derived.Test.YtbbpecfapohlaaaGreatDoorNumD
import Derived.Test.YtbbpecfapohlaaaGreatDoorK3
import Derived.Test.YtbbpecfapohlaaaGreatDoorRows
namespace Go.Proofs.YtbbpecfapohlaaaGreatDoor
open Go.RowKit
section
variable {α:Type}{R:Rp α}{enc:α→Value}{ok:α→Prop}{S:Nat→Prop}{w:World}
theorem One.toRD(O:One R enc ok)(h1:∀ x,(enc x).oneCell'=true){v:Value}{xs:List α}(h:(Rp.slice R).rel S w [v] xs):RD S w v (.l (xs.map fun x=>[.v (enc x)])):=by
 obtain⟨a,c,e,h2,h3,h4⟩:=h
 injection e with e
 subst e
 refine RD.ofCells (k:=1) (css:=xs.map fun x=>[enc x]) (by simp) h2 h3 (by simp) (fun i h=>by simp) (fun i h h'=>?_) (fun hp=>?_)
 ·simp only[List.getElem_map]
  exact .cons (.v (h1 _)) .nil
 ·obtain⟨b,o,ha,hb,hel⟩:=h4 hp
  refine⟨b,o,ha,hb,fun i hi j v hv=>?_⟩
  have hi':i<xs.length:=by simpa using hi
  obtain⟨es,hr,hc⟩:=hel i hi'
  obtain⟨rfl,_⟩:=O.rel.1 hr
  simp only[List.getElem_map]at hv
  have hj:j=0:=by
   have:=(List.getElem?_eq_some_iff.1 hv).1
   simpa using this
  subst hj
  have:=hc 0 (by simp)
  rw[O.k]at this
  simp only[List.getElem?_cons_zero,Option.some.injEq]at hv
  subst hv
  simpa[Nat.add_assoc] using this
theorem One.ofRD(O:One R enc ok){v:Value}{xs:List α}(h:RD S w v (.l (xs.map fun x=>[.v (enc x)])))(hok:∀ x∈xs,ok x):(Rp.slice R).rel S w [v] xs:=by
 cases v with
 | slice a n c=>
   obtain⟨hn,hc,hm,k,css,hl,hk,hr,ha⟩:=RD.cells h
   have hlx:n=xs.length:=by simpa using hn
   subst hlx
   refine⟨a,c,rfl,hc,hm,fun hp=>?_⟩
   obtain⟨b,o,e,hb,hcell⟩:=ha hp
   refine⟨b,o,e,hb,fun i hi=>?_⟩
   have hk1:k=1:=by rw[←hk i (by simpa using hi)];simp
   subst hk1
   have hi':i<css.length:=by rw[hl];simpa using hi
   have hrr:=hr i hi' (by simpa using hi)
   simp only[List.getElem_map]at hrr
   obtain⟨u,h1,h2⟩:=hrr.at (i:=0) rfl
   have h2':u=enc xs[i]:=by cases h2;rfl
   refine⟨[enc xs[i]],O.rel.2 ⟨rfl,hok _ (List.getElem_mem hi)⟩,fun j hj=>?_⟩
   have hj:j=0:=by simpa using hj
   subst hj
   rw[O.k]
   have:=hcell i hi' 0 u h1
   rw[h2']at this
   simpa[Nat.add_assoc] using this
 | _=>cases h
end
theorem limbs_one:limbs 1=[1]:=by unfold limbs;rw[digs_pos (by decide) (by decide)];rw[show 1 / 4294967296=0 by decide,digs_zero]
theorem bd_len{k n:Nat}(h:n<2^k)(hk:k≤100000000):(limbs n).length≤100000000:=Nat.le_trans (limbs_len_le' h) hk
def denL(d:Nat):List Nat:=if d=1 then []else limbs d
def sgnR(q:Rat):Int:=if q.num<0 then-1 else if q.num=0 then 0 else 1
def absR(q:Rat):Rat:=if q.num<0 then-q else q
def enL(l:List Nat):D:= .l (l.map fun c=>[.v (encU c)])
def enB(l:List Bool):D:= .l (l.map fun b=>[.v (encB b)])
def enR(q:Rat):List D:=[.v (.bool (decide (q.num<0))),enL (limbs q.num.natAbs),enL (denL q.den)]
def enQ(q:Rat):List D:=[.v (.bool (decide (q.num<0))),enB (bits q.num.natAbs),enB (bits q.den)]
section
variable {S:Nat→Prop}{w:World}{v:Value}
theorem RVs.one{us:List Value}{x:DV}(h:RVs S w us [x]):∃ u,us=[u]∧RV S w u x:=by
 match us,h with
 | [u],h=>exact⟨u,rfl,h.2 0 (by simp) (by simp)⟩
 | [],h=>exact absurd h.1 (by simp)
 | _::_::_,h=>exact absurd h.1 (by simp)
theorem RVs.two{us:List Value}{x y:DV}(h:RVs S w us [x,y]):∃ u v,us=[u,v]∧RV S w u x∧RV S w v y:=by
 match us,h with
 | [u,v],h=>exact⟨u,v,rfl,h.2 0 (by simp) (by simp),h.2 1 (by simp) (by simp)⟩
 | [],h=>exact absurd h.1 (by simp)
 | [_],h=>exact absurd h.1 (by simp)
 | _::_::_::_,h=>exact absurd h.1 (by simp)
theorem RVs.three{us:List Value}{x y z:DV}(h:RVs S w us [x,y,z]):∃ u v t,us=[u,v,t]∧RV S w u x∧RV S w v y∧RV S w t z:=by
 match us,h with
 | [u,v,t],h=>exact⟨u,v,t,rfl,h.2 0 (by simp) (by simp),h.2 1 (by simp) (by simp),h.2 2 (by simp) (by simp)⟩
 | [],h=>exact absurd h.1 (by simp)
 | [_],h=>exact absurd h.1 (by simp)
 | [_,_],h=>exact absurd h.1 (by simp)
 | _::_::_::_::_,h=>exact absurd h.1 (by simp)
end
abbrev Res(S:Nat→Prop)(w w':World):Nat→Prop:=fun b=>(S b∨w.heap.size≤b)∧b<w'.heap.size
theorem mo_res{S:Nat→Prop}{w w':World}:∀ b,Mo no w.heap.size w' b→Res S w w' b:=fun _ hb=>⟨.inr (hb.1.resolve_left id),hb.2⟩
theorem RV.mono{S S':Nat→Prop}{w:World}{u:Value}{x:DV}(h:RV S w u x)(hs:∀ b,S b→S' b):RV S' w u x:=h.keep fun b hb=>⟨hs b hb,rfl⟩
abbrev DgU(l:List Nat):Prop:=∀ x∈l,x<4294967296
theorem limbIn{S:Nat→Prop}{w:World}{v:Value}{l:List Nat}(hS:∀ b,S b→b<w.heap.size)(h:RV S w v (.d (enL l)))(hd:DgU l):∃ a c,v= .slice a l.length c∧Rp.lst.rel (Lt w.heap.size) w [.slice a l.length c] l:=by
 have q:=oneU.ofRD (RD.mono h hS) hd
 obtain⟨a,c,e,_⟩:=id q
 injection e with e
 subst e
 exact⟨a,c,rfl,q⟩
theorem limbOut{S:Nat→Prop}{w w':World}{v:Value}{l:List Nat}(h:Rp.lst.rel (Mo no w.heap.size w') w' [v] l):RV (Res S w w') w' v (.d (enL l)):=RD.mono (oneU.toRD (fun _=>rfl) h) mo_res
section
variable {l m:List Nat}(hl:DgU l)(hm:DgU m)
include hl
theorem normG(h1:l.length≤100000000):Fn Tryz.prog 211 [.d (enL l)] [.d (enL (limbs (dval 4294967296 l)))]:=
 ⟨⟨_,Tryz.func211,by kernel_rfl,by kernel_rfl⟩,fun S w vs hS hv=>by
   obtain⟨u,rfl,ha⟩:=hv.one
   obtain⟨a,c,rfl,q⟩:=limbIn hS ha hl
   refine(norm_any l a _ c w _ q (by omega)).mono ?_
   rintro e w' ⟨a,c,rfl,hx,hr⟩
   exact⟨_,rfl,hx,limbOut hr⟩⟩
end
section
variable {l m:List Nat}(hl:DgU l)(hm:DgU m)
include hl hm
theorem cmpG:Fn Tryz.prog 274 [.d (enL l),.d (enL m)] [.d (.v (.int .i64 (cmpN (dval 4294967296 l) (dval 4294967296 m))))]:=
 ⟨⟨_,Tryz.func274,by kernel_rfl,by kernel_rfl⟩,fun S w vs hS hv=>by
   obtain⟨u,v,rfl,ha,hb⟩:=hv.two
   obtain⟨a,c,rfl,q⟩:=limbIn hS ha hl
   obtain⟨a',c',rfl,q'⟩:=limbIn hS hb hm
   refine(cmp_any l m a a' _ _ c c' w _ _ q q').mono ?_
   rintro e w' ⟨rfl,q,rfl⟩
   exact⟨_,rfl,(Below.refl _ _).drN q,RD.v rfl⟩⟩
theorem addG(h1:l.length≤500000000)(h2:m.length≤500000000):Fn Tryz.prog 278 [.d (enL l),.d (enL m)] [.d (enL (limbs (dval 4294967296 l+dval 4294967296 m)))]:=
 ⟨⟨_,Tryz.func278,by kernel_rfl,by kernel_rfl⟩,fun S w vs hS hv=>by
   obtain⟨u,v,rfl,ha,hb⟩:=hv.two
   obtain⟨a,c,rfl,q⟩:=limbIn hS ha hl
   obtain⟨a',c',rfl,q'⟩:=limbIn hS hb hm
   refine(add_any l m a a' _ _ c c' w q q' h1 h2).mono ?_
   rintro e w' ⟨a,c,rfl,hx,hr⟩
   exact⟨_,rfl,hx,limbOut hr⟩⟩
theorem mulG(h1:l.length≤500000000)(h2:m.length≤500000000):Fn Tryz.prog 243 [.d (enL l),.d (enL m)] [.d (enL (limbs (dval 4294967296 l*dval 4294967296 m)))]:=
 ⟨⟨_,Tryz.func243,by kernel_rfl,by kernel_rfl⟩,fun S w vs hS hv=>by
   obtain⟨u,v,rfl,ha,hb⟩:=hv.two
   obtain⟨a,c,rfl,q⟩:=limbIn hS ha hl
   obtain⟨a',c',rfl,q'⟩:=limbIn hS hb hm
   refine(mul_any l m a a' _ _ c c' w q q' h1 h2).mono ?_
   rintro e w' ⟨a,c,rfl,hx,hr⟩
   exact⟨_,rfl,hx,limbOut hr⟩⟩
theorem gcdG(h1:l.length≤100000000)(h2:m.length≤100000000):Fn Tryz.prog 273 [.d (enL l),.d (enL m)] [.d (enL (limbs (Nat.gcd (dval 4294967296 l) (dval 4294967296 m))))]:=
 ⟨⟨_,Tryz.func273,by kernel_rfl,by kernel_rfl⟩,fun S w vs hS hv=>by
   obtain⟨u,v,rfl,ha,hb⟩:=hv.two
   obtain⟨a,c,rfl,q⟩:=limbIn hS ha hl
   obtain⟨a',c',rfl,q'⟩:=limbIn hS hb hm
   refine(gcd_any l m a a' _ _ c c' w q q' h1 h2).mono ?_
   rintro e w' ⟨a,c,rfl,hx,hr⟩
   exact⟨_,rfl,hx,limbOut hr⟩⟩
theorem subLt(h:dval 4294967296 l<dval 4294967296 m):Fn Tryz.prog 279 [.d (enL l),.d (enL m)] [.d (enL (limbs 0)),.d (.v (.bool false))]:=
 ⟨⟨_,Tryz.func279,by kernel_rfl,by kernel_rfl⟩,fun S w vs hS hv=>by
   obtain⟨u,v,rfl,ha,hb⟩:=hv.two
   obtain⟨a,c,rfl,q⟩:=limbIn hS ha hl
   obtain⟨a',c',rfl,q'⟩:=limbIn hS hb hm
   refine(sub_lt l m a a' _ _ c c' w q q' h).mono ?_
   rintro e w' ⟨a,c,rfl,hx,hr⟩
   refine⟨_,rfl,hx,[.slice a _ c,.bool false],rfl,rfl,fun i h h'=>?_⟩
   match i,h with
   | 0,_=>exact limbOut hr
   | 1,_=>exact .v rfl⟩
theorem subGe(h1:l.length≤500000000)(h:dval 4294967296 m≤dval 4294967296 l):Fn Tryz.prog 279 [.d (enL l),.d (enL m)] [.d (enL (limbs (dval 4294967296 l-dval 4294967296 m))),.d (.v (.bool true))]:=
 ⟨⟨_,Tryz.func279,by kernel_rfl,by kernel_rfl⟩,fun S w vs hS hv=>by
   obtain⟨u,v,rfl,ha,hb⟩:=hv.two
   obtain⟨a,c,rfl,q⟩:=limbIn hS ha hl
   obtain⟨a',c',rfl,q'⟩:=limbIn hS hb hm
   refine(sub_ge l m a a' _ _ c c' w q q' h1 h).mono ?_
   rintro e w' ⟨a,c,rfl,hx,hr⟩
   refine⟨_,rfl,hx,[.slice a _ c,.bool true],rfl,rfl,fun i h h'=>?_⟩
   match i,h with
   | 0,_=>exact limbOut hr
   | 1,_=>exact .v rfl⟩
theorem divG(h1:l.length≤100000000)(h2:m.length≤100000000)(hy:0<dval 4294967296 m):Fn Tryz.prog 275 [.d (enL l),.d (enL m)] [.d (enL (limbs (dval 4294967296 l / dval 4294967296 m))),.d (enL (limbs (dval 4294967296 l % dval 4294967296 m))),.d (.v (.bool true))]:=
 ⟨⟨_,Tryz.func275,by kernel_rfl,by kernel_rfl⟩,fun S w vs hS hv=>by
   obtain⟨u,v,rfl,ha,hb⟩:=hv.two
   obtain⟨a,c,rfl,q⟩:=limbIn hS ha hl
   obtain⟨a',c',rfl,q'⟩:=limbIn hS hb hm
   refine(divmod_any l m a a' _ _ c c' w q q' h1 h2 hy).mono ?_
   rintro e w' ⟨a,c,a',c',rfl,hx,hr,hr'⟩
   refine⟨_,rfl,hx,[.slice a _ c,.slice a' _ c',.bool true],rfl,rfl,fun i h h'=>?_⟩
   match i,h with
   | 0,_=>exact limbOut hr
   | 1,_=>exact limbOut hr'
   | 2,_=>exact .v rfl⟩
end
theorem wordG(u:Nat)(hu:u<18446744073709551616):Fn Tryz.prog 132 [.d (.v (.int .u64 (u:Int)))] [.d (enL (limbs u))]:=
 ⟨⟨_,Tryz.func132,by kernel_rfl,by kernel_rfl⟩,fun S w vs hS hv=>by
   obtain⟨v,rfl,ha⟩:=hv.one
   have e1:v= .int .u64 (u:Int):=by cases ha;rfl
   subst e1
   refine(word_any u w hu).mono ?_
   rintro e w' ⟨a,c,rfl,hx,hr⟩
   exact⟨_,rfl,hx,limbOut hr⟩⟩
theorem limbsDg(x:Nat):DgU (limbs x):=limbs_dg x
section
variable {x y:Nat}
theorem addU(h1:(limbs x).length≤500000000)(h2:(limbs y).length≤500000000):Fn Tryz.prog 278 [.d (enL (limbs x)),.d (enL (limbs y))] [.d (enL (limbs (x+y)))]:=by have:=addG (limbsDg x) (limbsDg y) h1 h2;rwa[limbs_val,limbs_val]at this
theorem mulU(h1:(limbs x).length≤500000000)(h2:(limbs y).length≤500000000):Fn Tryz.prog 243 [.d (enL (limbs x)),.d (enL (limbs y))] [.d (enL (limbs (x*y)))]:=by have:=mulG (limbsDg x) (limbsDg y) h1 h2;rwa[limbs_val,limbs_val]at this
theorem subLtU(h:x<y):Fn Tryz.prog 279 [.d (enL (limbs x)),.d (enL (limbs y))] [.d (enL []),.d (.v (.bool false))]:=by have:=subLt (limbsDg x) (limbsDg y) (by rwa[limbs_val,limbs_val]);rwa[limbs_zero]at this
theorem subGeU(h1:(limbs x).length≤500000000)(h:y≤x):Fn Tryz.prog 279 [.d (enL (limbs x)),.d (enL (limbs y))] [.d (enL (limbs (x-y))),.d (.v (.bool true))]:=by have:=subGe (limbsDg x) (limbsDg y) h1 (by rwa[limbs_val,limbs_val]);rwa[limbs_val,limbs_val]at this
end
end Go.Proofs.YtbbpecfapohlaaaGreatDoor
namespace Go.Proofs.YtbbpecfapohlaaaGreatDoor
open Go.RowKit
instance:Sz Tryz.prog 3 false 1:= .mk' (by kernel_rfl)
instance:Zr Tryz.prog 3 [.int .i64 0]:= .mk' (by kernel_rfl)
instance:It Tryz.prog 3 .i64:=⟨by kernel_rfl⟩
instance:Sz Tryz.prog 4 false 1:= .mk' (by kernel_rfl)
instance:Zr Tryz.prog 4 [.bool false]:= .mk' (by kernel_rfl)
instance:Sz Tryz.prog 5 false 1:= .mk' (by kernel_rfl)
instance:It Tryz.prog 5 .u8:=⟨by kernel_rfl⟩
instance:Sz Tryz.prog 9 false 1:= .mk' (by kernel_rfl)
instance:Sz Tryz.prog 22 false 1:= .mk' (by kernel_rfl)
instance:Sl Tryz.prog 22 116 5 88:=⟨.of (by kernel_rfl) (by kernel_rfl)⟩
instance:Sz Tryz.prog 23 false 1:= .mk' (by kernel_rfl)
instance:Sl Tryz.prog 23 55 1 24:=⟨.of (by kernel_rfl) (by kernel_rfl)⟩
instance:Sz Tryz.prog 25 true 4:= .mk' (by kernel_rfl)
instance:Fl Tryz.prog 25 0 0:= .mk' (n:=0) (by kernel_rfl)
instance:Fl Tryz.prog 25 1 1:= .mk' (n:=0) (by kernel_rfl)
instance:Fl Tryz.prog 25 2 2:= .mk' (n:=0) (by kernel_rfl)
instance:Fl Tryz.prog 25 3 3:= .mk' (n:=0) (by kernel_rfl)
instance:Sz Tryz.prog 27 false 1:= .mk' (by kernel_rfl)
instance:Sl Tryz.prog 27 108 5 88:=⟨.of (by kernel_rfl) (by kernel_rfl)⟩
instance:Sz Tryz.prog 29 true 4:= .mk' (by kernel_rfl)
instance:Zr Tryz.prog 29 [.int .i64 0,.int .i64 0,.slice none 0 0,.slice none 0 0]:= .mk' (by kernel_rfl)
instance:Fl Tryz.prog 29 0 0:= .mk' (n:=0) (by kernel_rfl)
instance:Fl Tryz.prog 29 1 1:= .mk' (n:=0) (by kernel_rfl)
instance:Fl Tryz.prog 29 2 2:= .mk' (n:=0) (by kernel_rfl)
instance:Fl Tryz.prog 29 3 3:= .mk' (n:=0) (by kernel_rfl)
instance:Stt Tryz.prog 29 [(0,1),(1,1),(2,1),(3,1)]:= .mk' (by kernel_rfl)
instance:Sz Tryz.prog 31 false 1:= .mk' (by kernel_rfl)
instance:Sz Tryz.prog 40 false 1:= .mk' (by kernel_rfl)
instance:Sl Tryz.prog 40 142 5 88:=⟨.of (by kernel_rfl) (by kernel_rfl)⟩
instance:Sz Tryz.prog 42 true 4:= .mk' (by kernel_rfl)
instance:Zr Tryz.prog 42 [.int .i64 0,.int .i64 0,.slice none 0 0,.slice none 0 0]:= .mk' (by kernel_rfl)
instance:Fl Tryz.prog 42 0 0:= .mk' (n:=0) (by kernel_rfl)
instance:Fl Tryz.prog 42 1 1:= .mk' (n:=0) (by kernel_rfl)
instance:Fl Tryz.prog 42 2 2:= .mk' (n:=0) (by kernel_rfl)
instance:Fl Tryz.prog 42 3 3:= .mk' (n:=0) (by kernel_rfl)
instance:Stt Tryz.prog 42 [(0,1),(1,1),(2,1),(3,1)]:= .mk' (by kernel_rfl)
instance:Sl Tryz.prog 48 112 3 56:=⟨.of (by kernel_rfl) (by kernel_rfl)⟩
instance:Sz Tryz.prog 49 false 1:= .mk' (by kernel_rfl)
instance:Sl Tryz.prog 49 4 1 1:=⟨.of (by kernel_rfl) (by kernel_rfl)⟩
instance:Sl Tryz.prog 51 136 3 56:=⟨.of (by kernel_rfl) (by kernel_rfl)⟩
instance:Sl Tryz.prog 53 104 3 56:=⟨.of (by kernel_rfl) (by kernel_rfl)⟩
instance:Sz Tryz.prog 55 false 1:= .mk' (by kernel_rfl)
instance:Sl Tryz.prog 55 3 1 8:=⟨.of (by kernel_rfl) (by kernel_rfl)⟩
instance:Sz Tryz.prog 67 false 1:= .mk' (by kernel_rfl)
instance:Sl Tryz.prog 67 98 3 48:=⟨.of (by kernel_rfl) (by kernel_rfl)⟩
instance:Sz Tryz.prog 98 true 3:= .mk' (by kernel_rfl)
instance:Zr Tryz.prog 98 [.bool false,.string ⟨#[]⟩,.slice none 0 0]:= .mk' (by kernel_rfl)
instance:Fl Tryz.prog 98 0 0:= .mk' (n:=0) (by kernel_rfl)
instance:Fl Tryz.prog 98 1 1:= .mk' (n:=0) (by kernel_rfl)
instance:Fl Tryz.prog 98 2 2:= .mk' (n:=0) (by kernel_rfl)
instance:Stt Tryz.prog 98 [(0,1),(1,1),(2,1)]:= .mk' (by kernel_rfl)
instance:Sz Tryz.prog 101 false 1:= .mk' (by kernel_rfl)
instance:Sl Tryz.prog 101 178 4 64:=⟨.of (by kernel_rfl) (by kernel_rfl)⟩
instance:Sz Tryz.prog 102 false 1:= .mk' (by kernel_rfl)
instance:Sl Tryz.prog 102 225 1 4:=⟨.of (by kernel_rfl) (by kernel_rfl)⟩
instance:Sz Tryz.prog 104 true 3:= .mk' (by kernel_rfl)
instance:Zr Tryz.prog 104 [.bool false,.slice none 0 0,.slice none 0 0]:= .mk' (by kernel_rfl)
instance:Fl Tryz.prog 104 0 0:= .mk' (n:=0) (by kernel_rfl)
instance:Fl Tryz.prog 104 1 1:= .mk' (n:=0) (by kernel_rfl)
instance:Fl Tryz.prog 104 2 2:= .mk' (n:=0) (by kernel_rfl)
instance:Stt Tryz.prog 104 [(0,1),(1,1),(2,1)]:= .mk' (by kernel_rfl)
instance:Sz Tryz.prog 106 true 4:= .mk' (by kernel_rfl)
instance:Zr Tryz.prog 106 [.slice none 0 0,.bool false,.slice none 0 0,.slice none 0 0]:= .mk' (by kernel_rfl)
instance:Fl Tryz.prog 106 0 0:= .mk' (n:=0) (by kernel_rfl)
instance:Fl Tryz.prog 106 1 1:= .mk' (n:=2) (by kernel_rfl)
instance:Stt Tryz.prog 106 [(0,1),(1,3)]:= .mk' (by kernel_rfl)
instance:Sz Tryz.prog 108 true 5:= .mk' (by kernel_rfl)
instance:Zr Tryz.prog 108 [.slice none 0 0,.bool false,.slice none 0 0,.slice none 0 0,.int .i64 0]:= .mk' (by kernel_rfl)
instance:Fl Tryz.prog 108 0 0:= .mk' (n:=3) (by kernel_rfl)
instance:Fl Tryz.prog 108 1 4:= .mk' (n:=0) (by kernel_rfl)
instance:Stt Tryz.prog 108 [(0,4),(4,1)]:= .mk' (by kernel_rfl)
instance:Sz Tryz.prog 110 false 1:= .mk' (by kernel_rfl)
instance:Sl Tryz.prog 110 281 4 64:=⟨.of (by kernel_rfl) (by kernel_rfl)⟩
instance:Sz Tryz.prog 112 true 3:= .mk' (by kernel_rfl)
instance:Fl Tryz.prog 112 0 0:= .mk' (n:=0) (by kernel_rfl)
instance:Fl Tryz.prog 112 1 1:= .mk' (n:=0) (by kernel_rfl)
instance:Fl Tryz.prog 112 2 2:= .mk' (n:=0) (by kernel_rfl)
instance:Sz Tryz.prog 114 true 4:= .mk' (by kernel_rfl)
instance:Fl Tryz.prog 114 0 0:= .mk' (n:=0) (by kernel_rfl)
instance:Fl Tryz.prog 114 1 1:= .mk' (n:=2) (by kernel_rfl)
instance:Sz Tryz.prog 116 true 5:= .mk' (by kernel_rfl)
instance:Fl Tryz.prog 116 0 0:= .mk' (n:=3) (by kernel_rfl)
instance:Fl Tryz.prog 116 1 4:= .mk' (n:=0) (by kernel_rfl)
instance:Sz Tryz.prog 136 true 3:= .mk' (by kernel_rfl)
instance:Zr Tryz.prog 136 [.bool false,.slice none 0 0,.slice none 0 0]:= .mk' (by kernel_rfl)
instance:Fl Tryz.prog 136 0 0:= .mk' (n:=0) (by kernel_rfl)
instance:Fl Tryz.prog 136 1 1:= .mk' (n:=0) (by kernel_rfl)
instance:Fl Tryz.prog 136 2 2:= .mk' (n:=0) (by kernel_rfl)
instance:Stt Tryz.prog 136 [(0,1),(1,1),(2,1)]:= .mk' (by kernel_rfl)
instance:Sz Tryz.prog 138 false 1:= .mk' (by kernel_rfl)
instance:Sl Tryz.prog 138 192 4 64:=⟨.of (by kernel_rfl) (by kernel_rfl)⟩
instance:Sz Tryz.prog 140 true 4:= .mk' (by kernel_rfl)
instance:Zr Tryz.prog 140 [.slice none 0 0,.bool false,.slice none 0 0,.slice none 0 0]:= .mk' (by kernel_rfl)
instance:Fl Tryz.prog 140 0 0:= .mk' (n:=0) (by kernel_rfl)
instance:Fl Tryz.prog 140 1 1:= .mk' (n:=2) (by kernel_rfl)
instance:Stt Tryz.prog 140 [(0,1),(1,3)]:= .mk' (by kernel_rfl)
instance:Sz Tryz.prog 142 true 5:= .mk' (by kernel_rfl)
instance:Zr Tryz.prog 142 [.slice none 0 0,.bool false,.slice none 0 0,.slice none 0 0,.int .i64 0]:= .mk' (by kernel_rfl)
instance:Fl Tryz.prog 142 0 0:= .mk' (n:=3) (by kernel_rfl)
instance:Fl Tryz.prog 142 1 4:= .mk' (n:=0) (by kernel_rfl)
instance:Stt Tryz.prog 142 [(0,4),(4,1)]:= .mk' (by kernel_rfl)
instance:Zr Tryz.prog 154 [.string ⟨#[]⟩,.int .i64 0,.int .i64 0,.int .i64 0,.int .i64 0]:= .mk' (by kernel_rfl)
instance:Fl Tryz.prog 154 0 0:= .mk' (n:=0) (by kernel_rfl)
instance:Fl Tryz.prog 154 1 1:= .mk' (n:=0) (by kernel_rfl)
instance:Fl Tryz.prog 154 2 2:= .mk' (n:=0) (by kernel_rfl)
instance:Fl Tryz.prog 154 3 3:= .mk' (n:=0) (by kernel_rfl)
instance:Fl Tryz.prog 154 4 4:= .mk' (n:=0) (by kernel_rfl)
instance:Stt Tryz.prog 154 [(0,1),(1,1),(2,1),(3,1),(4,1)]:= .mk' (by kernel_rfl)
instance:Sz Tryz.prog 178 true 4:= .mk' (by kernel_rfl)
instance:Zr Tryz.prog 178 [.int .i64 0,.bool false,.slice none 0 0,.slice none 0 0]:= .mk' (by kernel_rfl)
instance:Fl Tryz.prog 178 0 0:= .mk' (n:=0) (by kernel_rfl)
instance:Fl Tryz.prog 178 1 1:= .mk' (n:=2) (by kernel_rfl)
instance:Stt Tryz.prog 178 [(0,1),(1,3)]:= .mk' (by kernel_rfl)
instance:Sz Tryz.prog 192 true 4:= .mk' (by kernel_rfl)
instance:Zr Tryz.prog 192 [.int .i64 0,.bool false,.slice none 0 0,.slice none 0 0]:= .mk' (by kernel_rfl)
instance:Fl Tryz.prog 192 0 0:= .mk' (n:=0) (by kernel_rfl)
instance:Fl Tryz.prog 192 1 1:= .mk' (n:=2) (by kernel_rfl)
instance:Stt Tryz.prog 192 [(0,1),(1,3)]:= .mk' (by kernel_rfl)
instance:Sl Tryz.prog 196 5 1 1:=⟨.of (by kernel_rfl) (by kernel_rfl)⟩
instance:It Tryz.prog 218 .u64:=⟨by kernel_rfl⟩
instance:Sz Tryz.prog 225 false 1:= .mk' (by kernel_rfl)
instance:It Tryz.prog 225 .u32:=⟨by kernel_rfl⟩
instance:Sl Tryz.prog 251 140 4 80:=⟨.of (by kernel_rfl) (by kernel_rfl)⟩
instance:Sz Tryz.prog 258 true 3:= .mk' (by kernel_rfl)
instance:Zr Tryz.prog 258 [.bool false,.string ⟨#[]⟩,.string ⟨#[]⟩]:= .mk' (by kernel_rfl)
instance:Stt Tryz.prog 258 [(0,1),(1,1),(2,1)]:= .mk' (by kernel_rfl)
instance:Sz Tryz.prog 260 true 5:= .mk' (by kernel_rfl)
instance:Zr Tryz.prog 260 [.int .i64 0,.bool false,.string ⟨#[]⟩,.string ⟨#[]⟩,.string ⟨#[]⟩]:= .mk' (by kernel_rfl)
instance:Stt Tryz.prog 260 [(0,1),(1,3),(4,1)]:= .mk' (by kernel_rfl)
instance:Fl Tryz.prog 281 0 0:= .mk' (n:=0) (by kernel_rfl)
instance:Fl Tryz.prog 281 1 1:= .mk' (n:=2) (by kernel_rfl)
instance:It Tryz.prog 301 .u64:=⟨by kernel_rfl⟩
instance:Sl Tryz.prog 322 9 1 16:=⟨.of (by kernel_rfl) (by kernel_rfl)⟩
end Go.Proofs.YtbbpecfapohlaaaGreatDoor
