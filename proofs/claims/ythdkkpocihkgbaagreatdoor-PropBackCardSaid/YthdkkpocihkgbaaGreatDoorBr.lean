import Derived.Test.YthdkkpocihkgbaaGreatDoorRatB
import Derived.Test.YthdkkpocihkgbaaGreatDoorK3
set_option maxRecDepth 100000
set_option maxHeartbeats 4000000
namespace Go.Proofs.YthdkkpocihkgbaaGreatDoor
open Go.RowKit
def ListAns(l:List Nat)(w:World):Ending→World→Prop:=fun e w'=>∃ a c,e= .returned (.slice a l.length c)∧Ext w w'∧Rp.lst.rel (Mo no w.heap.size w') w' [.slice a l.length c] l
theorem lst_part{S:Nat→Prop}{w:World}{l:List Nat}{a:Option Addr}{c j:Nat}(h:Rp.lst.rel S w [.slice a l.length c] l)(hj:j≤l.length):Rp.lst.rel S w [.slice a j c] (l.take j):=by
 obtain⟨a',c',e,h3,h4,h5⟩:=h;injection e with e;injection e with e1 e2 e3;subst e1 e3;have hl:(l.take j).length=j:=by simp;omega
 refine⟨a,c,by rw[hl],by rw[hl];omega,h4,fun hp=>?_⟩;rw[hl]at hp;obtain⟨b,o,ha,hb,hel⟩:=h5 (by omega);refine⟨b,o,ha,hb,?_⟩;intro i hi;rw[hl]at hi;have:=hel i (by omega);simpa using this
theorem few_any(l:List Nat)(a:Option Addr)(n c:Nat)(w:World)(h:Rp.lst.rel (Lt w.heap.size) w [.slice a n c] l):
  Calls Tryz.prog 165 #[.slice a n c] w (ListAns (l.take 8) w):=by
 obtain⟨rfl,h1,h2⟩:=lst_len h;by_cases h8:8<l.length
 ·have HC:=Lib.hid (copyU_any (l.take 8) a 8 c w (lst_part h (by omega)) (by simp;omega));clear h
  go_enter Tryz.func165,Tryz.ntmps165
  go_wp2_with fail
  refine HC.out.mono ?_;rintro e0 w0 ⟨p,r,rfl,hx,hr⟩;have HX:=Lib.hid hx;have HR:=Lib.hid hr;clear hx hr
  go_wp2_with fail
  go_ret
  exact⟨p,r,by rw[List.length_take];rfl,HX.out,HR.out⟩
 ·have HT:l.take 8=l:=List.take_of_length_le (by omega);rw[HT];clear HT;have HC:=Lib.hid (copyU_any l a l.length c w h (by omega));clear h
  go_enter Tryz.func165,Tryz.ntmps165
  go_wp2_with fail
  refine HC.out.mono ?_;rintro e0 w0 ⟨p,r,rfl,hx,hr⟩;have HX:=Lib.hid hx;have HR:=Lib.hid hr;clear hx hr
  go_wp2_with fail
  go_ret
  exact⟨p,r,rfl,HX.out,HR.out⟩
theorem rat_back(p:Rat):mkRat (sgn (decide (p.num<0)) p.num.natAbs) p.den=p:=by
 have:sgn (decide (p.num<0)) p.num.natAbs=p.num:=by
  unfold sgn;by_cases h:p.num<0
  ·rw[if_pos (by simpa using h)];omega
  ·rw[if_neg (by simpa using h)];omega
 rw[this];exact Rat.mkRat_self p
theorem ofL(x:Nat)(a:Option Addr)(c:Nat)(w:World)(h:Rp.lst.rel (Lt w.heap.size) w [.slice a (limbs x).length c] (limbs x))(hl:(limbs x).length≤10000000):
  Calls Tryz.prog 119 #[.slice a (limbs x).length c] w (BitAns x no w):=by
 have:=ofB_any (limbs x) a _ c w h hl;rwa[limbs_val]at this
theorem told_any(va:Value)(p:Rat)(w:World)(k:Nat)(ha:RatV (Lt w.heap.size) w va p)(h1:Bd k p)(hk:k≤10000000):
  Calls Tryz.prog 59 #[va] w (RatBAns p no w):=by
 have HP0:=fun W (hx:Ext w W)=>parts_any va p W k (ha.below hx) h1 (by omega);have HQ:=rat_back p;obtain⟨na,x,d,a1,a2,c1,c2,rfl,e1,e2,e3,r1,r2⟩:=ha.open;rw[e1,e2,e3]at HP0 HQ;have hxl:(limbs x).length≤10000000:=Nat.le_trans (limbs_len_le' (e2▸h1.1)) hk;have hdl:(limbs d).length≤10000000:=Nat.le_trans (limbs_len_le' (e3▸h1.2)) hk;have hxb:=bd_lenB (e2▸h1.1) (by omega:k≤100000000);have hdb:=bd_lenB (e3▸h1.2) (by omega:k≤100000000);have hdp:0<d:=by rw[←e3];exact Nat.pos_of_ne_zero p.den_nz
 have hd0:((↑(bits d).length:Int)==0)=false:=by
  have:=List.length_pos_iff.2 (fun e=>absurd (bits_eq_nil.1 e) (by omega):¬ bits d=[]);rw[beq_eq_false_iff_ne];omega
 have HL:=Lib.hid (And.intro hxl (And.intro hdl (And.intro hxb (And.intro hdb hdp))));have HP:=Lib.hid HP0;have HQQ:=Lib.hid HQ;clear HP0 HQ ha h1 hk e1 e2 e3 r1 r2 hxl hdl hxb hdb hdp
 go_enter Tryz.func59,Tryz.ntmps59
 go_wp2_with fail
 obtain⟨W,hW,ka,kc,kf,hxw,hwz⟩:=box2 w #[.bool na,.slice a1 (limbs x).length c1,.slice a2 (denL d).length c2] #[.bool false,.slice none 0 0,.slice none 0 0] 119 136;rw[←hW];have HX0:=Lib.hid hxw;have HT0:Hid (Thr (w.heap.size+1) (.bool false) (.slice none 0 0) (.slice none 0 0) W):=⟨kc 0,kc 1,kc 2,kf,hwz⟩
 clear hW ka kc kf hxw hwz;refine(HP.out W HX0.out).mono ?_;rintro e0 w1 ⟨p1,s1,p2,s2,rfl,hx1,hr1,hr2⟩;have HX1:=Lib.hid (HX0.out.tr hx1);have HR1:=Lib.hid (lst_lt hr1);have HR2:=Lib.hid (lst_lt hr2);have HT1:=Lib.hid (HT0.out.ext hx1);clear hx1 hr1 hr2
 go_wp2_with fail
 refine(ofL d p2 s2 w1 HR2.out HL.out.2.1).mono ?_;rintro e2 w2 ⟨p3,s3,rfl,hx2,hr3⟩;have HX2:=Lib.hid (HX1.out.tr hx2);have HU1:=Lib.hid (lst_ext HR1.out hx2);have HU2:=Lib.hid (lst_ext HR2.out hx2);have HT2:=Lib.hid (HT1.out.ext hx2);clear hx2 hr3
 go_wp2_with fail
 refine(ofL x p1 s1 w2 HU1.out HL.out.1).mono ?_;rintro e3 w3 ⟨p4,s4,rfl,hx3,hr4⟩;have HX3:=Lib.hid (HX2.out.tr hx3);have HV2:=Lib.hid (lst_ext HU2.out hx3);have HN:=Lib.hid (Rp.bl.keep hr4 (S':=fun b=>w.heap.size+1<b∧b<w3.heap.size) (w':=w3) fun b hb=>⟨⟨Nat.lt_of_lt_of_le HT2.out.lt (hb.1.resolve_left id),hb.2⟩,rfl⟩);have HT3:=Lib.hid (HT2.out.ext hx3);clear hx3 hr4
 go_wp2_with fail
 refine(ofL d p2 s2 w3 HV2.out HL.out.2.1).mono ?_;rintro e4 w4 ⟨p5,s5,rfl,hx4,hr5⟩;have HX4:=Lib.hid (HX3.out.tr hx4);have HN4:=Lib.hid (Rp.bl.keep HN.out (S':=fun b=>w.heap.size+1<b∧b<w4.heap.size) (w':=w4) fun b hb=>⟨⟨hb.1,Nat.lt_of_lt_of_le hb.2 hx4.size⟩,hx4.block b hb.2⟩);have HD4:=Lib.hid (Rp.bl.keep hr5 (S':=fun b=>w.heap.size+1<b∧b<w4.heap.size) (w':=w4) fun b hb=>⟨⟨Nat.lt_of_lt_of_le HT3.out.lt (hb.1.resolve_left id),hb.2⟩,rfl⟩);have HT4:=Lib.hid (HT3.out.ext hx4);clear hx4 hr5
 go_wp2_with fail
 refine(ofE x d p4 p5 s4 s5 w4 na HL.out.2.2.1 HL.out.2.2.2.1 HL.out.2.2.2.2 _ (fun _ hb=>hb.2) HN4.out HD4.out).mono ?_;rintro e5 w5 ⟨v5,rfl,hx5,hv5⟩;obtain⟨g0,gx,gd,g1,g2,g3,g4,rfl,q1,q2,q3,q4,q5⟩:=hv5.open;rw[HQQ.out]at q1 q2 q3;have HX5:=Lib.hid (HX4.out.tr hx5);have HQ4:=Lib.hid (And.intro q1 (And.intro q2 q3));have HQ5:=Lib.hid (And.intro q4 q5);have HT5:=HT4.out.ext hx5;have t0:=HT5.c0;have t1:=HT5.c1;have t2:=HT5.c2;have t3:=HT5.fr;have t4:=HT5.lt;have hz:Hid (w.heap.size+1<w4.heap.size):=HT4.out.lt;clear hx5 hv5 q1 q2 q3 q4 q5 HT5
 go_wp2_with fail
 refine bodyPost_ret (v:= .agg #[.bool g0,.slice g1 (bits gx).length g3,.slice g2 (bits gd).length g4]) (by simp[results,Tryz.results59,go_sem,t0,t1,t2]) rfl ?_;refine⟨_,rfl,(((HX5.out).st (by show w.heap.size≤w.heap.size+1;omega) _).st (by show w.heap.size≤w.heap.size+1;omega) _).st (by show w.heap.size≤w.heap.size+1;omega) _,RatB.mk HQ4.out.1 HQ4.out.2.1 HQ4.out.2.2 (Rp.bl.keep HQ5.out.1 ?_) (Rp.bl.keep HQ5.out.2 ?_)⟩
 all_goals
  intro b hb;have h1:w.heap.size+1<b:=by
   have hz':=hz.out;rcases hb.1 with h9 | h9
   ·exact h9.1
   ·omega
  have h2:b<w5.heap.size:=hb.2;have h3:b≠w.heap.size+1:=by omega
  exact⟨⟨.inr (by omega),by simpa[World.setCell] using h2⟩,by rw[far_cell h3,far_cell h3,far_cell h3]⟩
def barL(d:List Nat):List Nat:=if dval 4294967296 (d.take 8)=0 then [1]else d.take 8
def numQ(nb:Bool)(x d:List Nat):Rat:=mkRat (sgn nb (dval 4294967296 (x.take 8))) (dval 4294967296 (barL d))
theorem barL_pos(d:List Nat):0<dval 4294967296 (barL d):=by
 unfold barL;by_cases h:dval 4294967296 (d.take 8)=0
 ·rw[if_pos h];decide
 ·rw[if_neg h];omega
theorem barL_len(d:List Nat):(barL d).length≤8:=by
 unfold barL;by_cases h:dval 4294967296 (d.take 8)=0
 ·rw[if_pos h];decide
 ·rw[if_neg h];simp;omega
section
variable {α:Type}{R:Rp α}{enc:α→Value}{ok:α→Prop}{S:Nat→Prop}{w:World}
theorem One.toRD(O:One R enc ok)(h1:∀ x,(enc x).oneCell'=true){v:Value}{xs:List α}(h:(Rp.slice R).rel S w [v] xs):RD S w v (.l (xs.map fun x=>[.v (enc x)])):=by
 obtain⟨a,c,e,h2,h3,h4⟩:=h;injection e with e;subst e;refine RD.ofCells (k:=1) (css:=xs.map fun x=>[enc x]) (by simp) h2 h3 (by simp) (fun i h=>by simp) (fun i h h'=>?_) (fun hp=>?_)
 ·simp only[List.getElem_map];exact .cons (.v (h1 _)) .nil
 ·obtain⟨b,o,ha,hb,hel⟩:=h4 hp;refine⟨b,o,ha,hb,fun i hi j v hv=>?_⟩;have hi':i<xs.length:=by simpa using hi
  obtain⟨es,hr,hc⟩:=hel i hi';obtain⟨rfl,_⟩:=O.rel.1 hr;simp only[List.getElem_map]at hv;have hj:j=0:=by
   have:=(List.getElem?_eq_some_iff.1 hv).1;simpa using this
  subst hj;have:=hc 0 (by simp);rw[O.k]at this;simp only[List.getElem?_cons_zero,Option.some.injEq]at hv;subst hv;simpa[Nat.add_assoc] using this
theorem One.ofRD(O:One R enc ok){v:Value}{xs:List α}(h:RD S w v (.l (xs.map fun x=>[.v (enc x)])))(hok:∀ x∈xs,ok x):(Rp.slice R).rel S w [v] xs:=by
 cases v with
 | slice a n c=>
   obtain⟨hn,hc,hm,k,css,hl,hk,hr,ha⟩:=RD.cells h;have hlx:n=xs.length:=by simpa using hn
   subst hlx;refine⟨a,c,rfl,hc,hm,fun hp=>?_⟩;obtain⟨b,o,e,hb,hcell⟩:=ha hp;refine⟨b,o,e,hb,fun i hi=>?_⟩;have hk1:k=1:=by rw[←hk i (by simpa using hi)];simp
   subst hk1;have hi':i<css.length:=by rw[hl];simpa using hi
   have hrr:=hr i hi' (by simpa using hi);simp only[List.getElem_map]at hrr;obtain⟨u,h1,h2⟩:=hrr.at (i:=0) rfl;have h2':u=enc xs[i]:=by cases h2;rfl
   refine⟨[enc xs[i]],O.rel.2 ⟨rfl,hok _ (List.getElem_mem hi)⟩,fun j hj=>?_⟩;have hj:j=0:=by simpa using hj
   subst hj;rw[O.k];have:=hcell i hi' 0 u h1;rw[h2']at this;simpa[Nat.add_assoc] using this
 | _=>cases h
end
def enL(l:List Nat):D:= .l (l.map fun c=>[.v (encU c)])
def enB(l:List Bool):D:= .l (l.map fun b=>[.v (encB b)])
def enR(q:Rat):List D:=[.v (.bool (decide (q.num<0))),enL (limbs q.num.natAbs),enL (denL q.den)]
def enQ(q:Rat):List D:=[.v (.bool (decide (q.num<0))),enB (bits q.num.natAbs),enB (bits q.den)]
section
variable {S:Nat→Prop}{w:World}{v:Value}{q:Rat}
theorem denL_dg(d:Nat):∀ x∈denL d,x<4294967296:=by
 unfold denL;split
 ·simp
 ·exact limbs_dg d
theorem RatV.toRV(h:RatV S w v q):RV S w v (.g (enR q)):=by
 obtain⟨a,c,a',c',rfl,h1,h2⟩:=h;exact⟨[_,_,_],rfl,.cons (.v rfl) (.cons (oneU.toRD (fun _=>rfl) h1) (.cons (oneU.toRD (fun _=>rfl) h2) .nil))⟩
theorem RV3{x y z:D}(h:RV S w v (.g [x,y,z])):∃ a b c,v= .agg #[a,b,c]∧RD S w a x∧RD S w b y∧RD S w c z:=by
 obtain⟨us,rfl,h⟩:=h
 match us,h with
 | [a,b,c],h=>exact⟨a,b,c,rfl,h.2 0 (by simp) (by simp),h.2 1 (by simp) (by simp),h.2 2 (by simp) (by simp)⟩
 | [],h=>exact absurd h.1 (by simp)
 | [_],h=>exact absurd h.1 (by simp)
 | [_,_],h=>exact absurd h.1 (by simp)
 | _::_::_::_::_,h=>exact absurd h.1 (by simp)
theorem RatV.ofRV(h:RV S w v (.g (enR q))):RatV S w v q:=by
 obtain⟨a,b,c,rfl,h1,h2,h3⟩:=RV3 h;cases h1;obtain⟨a1,c1,e1,q1⟩:=id (oneU.ofRD h2 (fun x hx=>limbs_dg _ x hx));obtain⟨a2,c2,e2,q2⟩:=id (oneU.ofRD h3 (fun x hx=>denL_dg _ x hx));injection e1 with e1;injection e2 with e2;subst e1 e2;exact⟨a1,c1,a2,c2,rfl,⟨a1,c1,rfl,q1⟩,⟨a2,c2,rfl,q2⟩⟩
theorem RatB.toRV(h:RatB S w v q):RV S w v (.g (enQ q)):=by
 obtain⟨a,c,a',c',rfl,h1,h2⟩:=h;exact⟨[_,_,_],rfl,.cons (.v rfl) (.cons (oneB.toRD (fun _=>rfl) h1) (.cons (oneB.toRD (fun _=>rfl) h2) .nil))⟩
theorem RatB.ofRV(h:RV S w v (.g (enQ q))):RatB S w v q:=by
 obtain⟨a,b,c,rfl,h1,h2,h3⟩:=RV3 h;cases h1;obtain⟨a1,c1,e1,q1⟩:=id (oneB.ofRD h2 (fun _ _=>trivial));obtain⟨a2,c2,e2,q2⟩:=id (oneB.ofRD h3 (fun _ _=>trivial));injection e1 with e1;injection e2 with e2;subst e1 e2;exact⟨a1,c1,a2,c2,rfl,⟨a1,c1,rfl,q1⟩,⟨a2,c2,rfl,q2⟩⟩
theorem RVs.one{us:List Value}{x:DV}(h:RVs S w us [x]):∃ u,us=[u]∧RV S w u x:=by
 match us,h with
 | [u],h=>exact⟨u,rfl,h.2 0 (by simp) (by simp)⟩
 | [],h=>exact absurd h.1 (by simp)
 | _::_::_,h=>exact absurd h.1 (by simp)
theorem RVs.two{us:List Value}{x y:DV}(h:RVs S w us [x,y]):∃ u v,us=[u,v]∧RV S w u x∧RV S w v y:=by
 match us,h with
 | [u,v],h=>exact⟨u,v,rfl,h.2 0 (by simp) (by simp),h.2 1 (by simp) (by simp)⟩
 | [],h=>exact absurd h.1 (by simp)
 | [_],h=>exact absurd h.1 (by simp)
 | _::_::_::_,h=>exact absurd h.1 (by simp)
theorem RVs.three{us:List Value}{x y z:DV}(h:RVs S w us [x,y,z]):∃ u v t,us=[u,v,t]∧RV S w u x∧RV S w v y∧RV S w t z:=by
 match us,h with
 | [u,v,t],h=>exact⟨u,v,t,rfl,h.2 0 (by simp) (by simp),h.2 1 (by simp) (by simp),h.2 2 (by simp) (by simp)⟩
 | [],h=>exact absurd h.1 (by simp)
 | [_],h=>exact absurd h.1 (by simp)
 | [_,_],h=>exact absurd h.1 (by simp)
 | _::_::_::_::_,h=>exact absurd h.1 (by simp)
end
abbrev Res(S:Nat→Prop)(w w':World):Nat→Prop:=fun b=>(S b∨w.heap.size≤b)∧b<w'.heap.size
theorem mo_res{S:Nat→Prop}{w w':World}:∀ b,Mo no w.heap.size w' b→Res S w w' b:=fun _ hb=>⟨.inr (hb.1.resolve_left id),hb.2⟩
theorem RV.mono{S S':Nat→Prop}{w:World}{u:Value}{x:DV}(h:RV S w u x)(hs:∀ b,S b→S' b):RV S' w u x:=h.keep fun b hb=>⟨hs b hb,rfl⟩
section
variable {k m:Nat}{p q:Rat}
theorem ratAdd(h1:Bd k p)(h2:Bd m q)(hk:k+m≤50000000):Fn Tryz.prog 114 [.g (enR p),.g (enR q)] [.g (enR (p+q))]:=
 ⟨⟨_,Tryz.func114,by kernel_rfl,by kernel_rfl⟩,fun S w vs hS hv=>by
   obtain⟨u,v,rfl,ha,hb⟩:=hv.two;refine(addR_any u v p q w k m ((RatV.ofRV ha).mono hS) ((RatV.ofRV hb).mono hS) h1 h2 hk).mono ?_;rintro e w' ⟨r,rfl,hx,hr⟩;exact⟨r,rfl,hx,(hr.mono mo_res).toRV⟩⟩
theorem ratMul(h1:Bd k p)(h2:Bd m q)(hk:k+m≤50000000):Fn Tryz.prog 115 [.g (enR p),.g (enR q)] [.g (enR (p*q))]:=
 ⟨⟨_,Tryz.func115,by kernel_rfl,by kernel_rfl⟩,fun S w vs hS hv=>by
   obtain⟨u,v,rfl,ha,hb⟩:=hv.two;refine(mulR_any u v p q w k m ((RatV.ofRV ha).mono hS) ((RatV.ofRV hb).mono hS) h1 h2 hk).mono ?_;rintro e w' ⟨r,rfl,hx,hr⟩;exact⟨r,rfl,hx,(hr.mono mo_res).toRV⟩⟩
theorem ratCmp(h1:Bd k p)(h2:Bd m q)(hk:k+m≤50000000):Fn Tryz.prog 51 [.g (enR p),.g (enR q)] [.d (.v (.int .i64 (sgnR (p-q))))]:=
 ⟨⟨_,Tryz.func51,by kernel_rfl,by kernel_rfl⟩,fun S w vs hS hv=>by
   obtain⟨u,v,rfl,ha,hb⟩:=hv.two;refine(cmpR_any u v p q w k m ((RatV.ofRV ha).mono hS) ((RatV.ofRV hb).mono hS) h1 h2 hk).mono ?_;rintro e w' ⟨rfl,hx⟩;exact⟨_,rfl,hx,RD.v rfl⟩⟩
theorem ratSign(p:Rat):Fn Tryz.prog 103 [.g (enR p)] [.d (.v (.int .i64 (sgnR p)))]:=
 ⟨⟨_,Tryz.func103,by kernel_rfl,by kernel_rfl⟩,fun S w vs hS hv=>by
   obtain⟨u,rfl,ha⟩:=hv.one;refine(sign_any u p w S (RatV.ofRV ha)).mono ?_;rintro e w' ⟨rfl,hx⟩;exact⟨_,rfl,hx,RD.v rfl⟩⟩
theorem ratNeg(p:Rat):Fn Tryz.prog 161 [.g (enR p)] [.g (enR (-p))]:=
 ⟨⟨_,Tryz.func161,by kernel_rfl,by kernel_rfl⟩,fun S w vs hS hv=>by
   obtain⟨u,rfl,ha⟩:=hv.one;refine(neg_any u p w S hS (RatV.ofRV ha)).mono ?_;rintro e w' ⟨r,rfl,hx,hr⟩;exact⟨r,rfl,hx,hr.toRV⟩⟩
theorem ratInt(n:Int)(h0: -9223372036854775808≤n)(h1:n≤9223372036854775807):Fn Tryz.prog 50 [.d (.v (.int .i64 n))] [.g (enR n)]:=
 ⟨⟨_,Tryz.func50,by kernel_rfl,by kernel_rfl⟩,fun S w vs hS hv=>by
   obtain⟨u,rfl,ha⟩:=hv.one;have:u= .int .i64 n:=by cases ha;rfl
   subst this;refine(intR_any n w h0 h1).mono ?_;rintro e w' ⟨r,rfl,hx,hr⟩;exact⟨r,rfl,hx,(hr.mono mo_res).toRV⟩⟩
theorem ratMake(neg:Bool)(l m:List Nat)(hl:l.length≤100000000)(hm:m.length≤100000000)(hy:0<dval 4294967296 m)(hdl:∀ x∈l,x<4294967296)(hdm:∀ x∈m,x<4294967296):
  Fn Tryz.prog 166 [.d (.v (.bool neg)),.d (enL l),.d (enL m)] [.g (enR (mkRat (sgn neg (dval 4294967296 l)) (dval 4294967296 m))),.d (.v (.bool true))]:=
 ⟨⟨_,Tryz.func166,by kernel_rfl,by kernel_rfl⟩,fun S w vs hS hv=>by
   obtain⟨u,v,t,rfl,h1,h2,h3⟩:=hv.three;have:u= .bool neg:=by cases h1;rfl
   subst this;have q1:=oneU.ofRD (RD.mono h2 hS) hdl;have q2:=oneU.ofRD (RD.mono h3 hS) hdm;obtain⟨a1,c1,e1,_⟩:=id q1;obtain⟨a2,c2,e2,_⟩:=id q2;injection e1 with e1;injection e2 with e2;subst e1 e2;refine(make_any neg l m a1 a2 _ _ c1 c2 w q1 q2 hl hm hy).mono ?_;rintro e w' ⟨r,rfl,hx,hr⟩;refine⟨_,rfl,hx,[r,.bool true],rfl,rfl,fun i h h'=>?_⟩
   match i,h with
   | 0,_=>exact(hr.mono mo_res).toRV
   | 1,_=>exact RD.v rfl⟩
theorem qAdd(h1:Bd k p)(h2:Bd m q)(hk:k+m≤50000000):Fn Tryz.prog 61 [.g (enQ p),.g (enQ q)] [.g (enQ (p+q))]:=
 ⟨⟨_,Tryz.func61,by kernel_rfl,by kernel_rfl⟩,fun S w vs hS hv=>by
   obtain⟨u,v,rfl,ha,hb⟩:=hv.two;refine(addRB_any u v p q w k m ((RatB.ofRV ha).mono hS) ((RatB.ofRV hb).mono hS) h1 h2 hk).mono ?_;rintro e w' ⟨r,rfl,hx,hr⟩;exact⟨r,rfl,hx,(hr.mono mo_res).toRV⟩⟩
theorem qMul(h1:Bd k p)(h2:Bd m q)(hk:k+m≤50000000):Fn Tryz.prog 62 [.g (enQ p),.g (enQ q)] [.g (enQ (p*q))]:=
 ⟨⟨_,Tryz.func62,by kernel_rfl,by kernel_rfl⟩,fun S w vs hS hv=>by
   obtain⟨u,v,rfl,ha,hb⟩:=hv.two;refine(mulRB_any u v p q w k m ((RatB.ofRV ha).mono hS) ((RatB.ofRV hb).mono hS) h1 h2 hk).mono ?_;rintro e w' ⟨r,rfl,hx,hr⟩;exact⟨r,rfl,hx,(hr.mono mo_res).toRV⟩⟩
theorem qCmp(h1:Bd k p)(h2:Bd m q)(hk:k+m≤50000000):Fn Tryz.prog 58 [.g (enQ p),.g (enQ q)] [.d (.v (.int .i64 (sgnR (p-q))))]:=
 ⟨⟨_,Tryz.func58,by kernel_rfl,by kernel_rfl⟩,fun S w vs hS hv=>by
   obtain⟨u,v,rfl,ha,hb⟩:=hv.two;refine(cmpRB_any u v p q w k m ((RatB.ofRV ha).mono hS) ((RatB.ofRV hb).mono hS) h1 h2 hk).mono ?_;rintro e w' ⟨rfl,hx⟩;exact⟨_,rfl,hx,RD.v rfl⟩⟩
theorem qSign(p:Rat):Fn Tryz.prog 63 [.g (enQ p)] [.d (.v (.int .i64 (sgnR p)))]:=
 ⟨⟨_,Tryz.func63,by kernel_rfl,by kernel_rfl⟩,fun S w vs hS hv=>by
   obtain⟨u,rfl,ha⟩:=hv.one;refine(signB_any u p w S (RatB.ofRV ha)).mono ?_;rintro e w' ⟨rfl,hx⟩;exact⟨_,rfl,hx,RD.v rfl⟩⟩
theorem qInt(n:Int)(h0: -9223372036854775808≤n)(h1:n≤9223372036854775807):Fn Tryz.prog 60 [.d (.v (.int .i64 n))] [.g (enQ n)]:=
 ⟨⟨_,Tryz.func60,by kernel_rfl,by kernel_rfl⟩,fun S w vs hS hv=>by
   obtain⟨u,rfl,ha⟩:=hv.one;have:u= .int .i64 n:=by cases ha;rfl
   subst this;refine(intB_any n w h0 h1).mono ?_;rintro e w' ⟨r,rfl,hx,hr⟩;exact⟨r,rfl,hx,(hr.mono mo_res).toRV⟩⟩
theorem qOf(neg:Bool)(x y:Nat)(hl:(bits x).length≤100000000)(hm:(bits y).length≤100000000)(hy:0<y):Fn Tryz.prog 120 [.d (.v (.bool neg)),.d (enB (bits x)),.d (enB (bits y))] [.g (enQ (mkRat (sgn neg x) y))]:=
 ⟨⟨_,Tryz.func120,by kernel_rfl,by kernel_rfl⟩,fun S w vs hS hv=>by
   obtain⟨u,v,t,rfl,h1,h2,h3⟩:=hv.three;have:u= .bool neg:=by cases h1;rfl
   subst this;have q1:=oneB.ofRD h2 (fun _ _=>trivial);have q2:=oneB.ofRD h3 (fun _ _=>trivial);obtain⟨a1,c1,e1,_⟩:=id q1;obtain⟨a2,c2,e2,_⟩:=id q2;injection e1 with e1;injection e2 with e2;subst e1 e2;refine(ofR_any neg x y a1 a2 _ _ c1 c2 w S hS q1 q2 hl hm hy).mono ?_;rintro e w' ⟨r,rfl,hx,hr⟩;exact⟨r,rfl,hx,hr.toRV⟩⟩
theorem bitsOf(l:List Nat)(hl:l.length≤10000000)(hd:∀ x∈l,x<4294967296):Fn Tryz.prog 119 [.d (enL l)] [.d (enB (bits (dval 4294967296 l)))]:=
 ⟨⟨_,Tryz.func119,by kernel_rfl,by kernel_rfl⟩,fun S w vs hS hv=>by
   obtain⟨u,rfl,ha⟩:=hv.one;have q1:=oneU.ofRD (RD.mono ha hS) hd;obtain⟨a1,c1,e1,_⟩:=id q1;injection e1 with e1;subst e1;refine(ofB_any l a1 _ c1 w q1 hl).mono ?_;rintro e w' ⟨a,c,rfl,hx,hr⟩;refine⟨_,rfl,hx,?_⟩;exact RD.mono (oneB.toRD (fun _=>rfl) hr) mo_res⟩
theorem told(h1:Bd k p)(hk:k≤10000000):Fn Tryz.prog 59 [.g (enR p)] [.g (enQ p)]:=
 ⟨⟨_,Tryz.func59,by kernel_rfl,by kernel_rfl⟩,fun S w vs hS hv=>by
   obtain⟨u,rfl,ha⟩:=hv.one;refine(told_any u p w k ((RatV.ofRV ha).mono hS) h1 hk).mono ?_;rintro e w' ⟨r,rfl,hx,hr⟩;exact⟨r,rfl,hx,(hr.mono mo_res).toRV⟩⟩
theorem few(l:List Nat)(hd:∀ x∈l,x<4294967296):Fn Tryz.prog 165 [.d (enL l)] [.d (enL (l.take 8))]:=
 ⟨⟨_,Tryz.func165,by kernel_rfl,by kernel_rfl⟩,fun S w vs hS hv=>by
   obtain⟨u,rfl,ha⟩:=hv.one;have q1:=oneU.ofRD (RD.mono ha hS) hd;obtain⟨a1,c1,e1,_⟩:=id q1;injection e1 with e1;subst e1;refine(few_any l a1 _ c1 w q1).mono ?_;rintro e w' ⟨a,c,rfl,hx,hr⟩;exact⟨_,rfl,hx,RD.mono (oneU.toRD (fun _=>rfl) hr) mo_res⟩⟩
end
end Go.Proofs.YthdkkpocihkgbaaGreatDoor
