import Derived.Test.YthdkkpocihkgbaaGreatDoorNumL
set_option maxRecDepth 100000
set_option maxHeartbeats 800000
namespace Go.Proofs.YthdkkpocihkgbaaGreatDoor
open Go.RowKit
theorem fH{S S':Nat→Prop}{w w':World}{cs:List Value}{l:List Nat}(h:Rp.lst.rel S w cs l)(hs:∀ b,S b→S' b∧w'.heap[b]?=w.heap[b]?):Rp.lst.rel S' w' cs l:=(Rp.slice _).keep h hs
theorem sh{y:Nat}(h:(ae y).length=1):ae y=[y]∧y<4294967296:=by
 obtain⟨d,hd⟩:=List.length_eq_one_iff.1 h;have h1:=ax y;have h2:=cv y;rw[hd]at h1 h2 ⊢;simp only[dx,dval_nil]at h1;have:d=y:=by omega
 subst this;exact⟨rfl,h2 d (by simp)⟩
theorem limbs_eq_nil{y:Nat}:ae y=[]↔y=0:=iu (by decide)
theorem pX(l m:List Nat)(a a':Option Addr)(n n' c c':Nat)(w:World)(h:Rp.lst.rel (Lt w.heap.size) w [.slice a n c] l)(h':Rp.lst.rel (Lt w.heap.size) w [.slice a' n' c'] m)
  (hl:l.length≤100000000) (hm:m.length≤100000000) (hy:0<aa 4294967296 m):
  Calls Tryz.prog 214 #[.slice a n c,.slice a' n' c'] w (yR (aa 4294967296 l) (aa 4294967296 m) no w):=by
 obtain⟨rfl,h1,h2⟩:=bG h;obtain⟨rfl,h1',h2'⟩:=bG h';have hpl:(ae (aa 4294967296 l)).length≤l.length:=(bM (B:=4294967296) (by decide) (dM h)).2;have hql:(ae (aa 4294967296 m)).length≤m.length:=(bM (B:=4294967296) (by decide) (dM h')).2;have H1:=Lib.hid h;clear h;have H2:=Lib.hid h';clear h';have HN1:=Lib.hid (dj l a _ c w _ H1.out (by omega))
 go_enter Tryz.func214,Tryz.ntmps214
 go_wp2_with fail
 refine HN1.out.mono ?_;rintro e w1 ⟨b1,d1,rfl,hx1,hr1⟩;have HX1:=Lib.hid hx1;have HN2:=Lib.hid (dj m a' _ c' w1 _ ((Rp.slice _).below H2.out hx1 hx1.size) (by omega));have HR1:=Lib.hid hr1;clear hx1 hr1 HN1
 go_wp2_with fail
 refine HN2.out.mono ?_;rintro e w2 ⟨b2,d2,rfl,hx2,hr2⟩;have HX2:=Lib.hid (HX1.out.tr hx2);have hsz:=HX1.out.size;have HR1':=Lib.hid (fH (S':=Mo no w.heap.size w2) (w':=w2) HR1.out fun b hb=>⟨⟨hb.1,Nat.lt_of_lt_of_le hb.2 hx2.size⟩,hx2.block b hb.2⟩);have HR1L:=Lib.hid (fH (S':=Lt w2.heap.size) (w':=w2) HR1'.out fun b hb=>⟨hb.2,rfl⟩);have HR2L:=Lib.hid (fH (S':=Lt w2.heap.size) (w':=w2) hr2 fun b hb=>⟨hb.2,rfl⟩);clear hx2 hr2 HN2 HR1 H1 H2 h1 h2 h1' h2';generalize hx:aa 4294967296 l=x at*;generalize hyy:aa 4294967296 m=y at*;clear hx hyy;have hy1:0<(ae y).length:=by
  rcases Nat.eq_zero_or_pos (ae y).length with h0 | h0
  ·have:=limbs_eq_nil.1 (List.eq_nil_of_length_eq_zero h0);omega
  ·exact h0
 have hyn:¬ ae y=[]:=fun e=>by rw[e]at hy1;simp at hy1
 have hyb:((ae y).length==0)=false:=by rw[beq_eq_false_iff_ne];omega
 have hyb2:(((ae y).length:Int)==0)=false:=by rw[beq_eq_false_iff_ne];omega
 have hcm:=oJ (ae x) (ae y) b1 b2 _ _ d1 d2 w2 _ _ HR1L.out HR2L.out;rw[ax,ax]at hcm;have HCM:=Lib.hid hcm;clear hcm
 go_wp2_with fail
 refine HCM.out.mono ?_;rintro e w3 ⟨rfl,qq,rfl⟩;have HR1D:=Lib.hid (Rp.drN _ HR1L.out qq);have HR2D:=Lib.hid (Rp.drN _ HR2L.out qq);have HX3:=Lib.hid (HX2.out.drN qq);by_cases hlt:x<y
 ·rw[iO hlt];have HE:Hid (x / y=0∧x % y=x):=⟨Nat.div_eq_of_lt hlt,Nat.mod_eq_of_lt hlt⟩
  go_wp2
  go_ret3
  refine⟨none,0,b1,d1,?_,HX3.out,?_,?_⟩
  ·rw[HE.out.1,HE.out.2,bl];rfl
  ·rw[HE.out.1,bl];exact vG
  ·rw[HE.out.2];exact Rp.drN _ HR1'.out qq
 ·have hc:0≤cF x y:=by unfold cF;rw[if_neg hlt];split<;>omega
  generalize cF x y=cm at*;by_cases h1:(ae y).length=1
  ·obtain⟨e1,e2⟩:=sh h1;obtain⟨bb,oo,rfl,_,g1,_⟩:=oneU.get HR2D.out 0 (by omega);have g1':(w2.drewN qq).cell? ⟨bb,oo,none⟩=some (.int .u32 (y:Int)):=by
    have e3:(ae y)[0]'(by omega)=y:=by rw[List.getElem_of_eq e1];rfl
    rw[e3]at g1;exact g1
   have h1b:(((ae y).length:Int)==1)=true:=by rw[beq_iff_eq];omega
   have hdw:=o5 (ae x) y b1 _ d1 (w2.drewN qq) HR1D.out (by omega) hy e2;rw[ax]at hdw;have HDW:=Lib.hid hdw;have HE1:=Lib.hid e1;clear e1 g1 h1 hdw
   go_wp2_with fail
   refine HDW.out.mono ?_;rintro e w4 ⟨qa,qc,rfl,hx4,hr4⟩;have HX4:=Lib.hid (HX3.out.tr hx4);have hz4:w.heap.size≤w2.heap.size:=HX2.out.size;have HR4:=Lib.hid hr4;clear hx4 hr4 HDW;have hm1:x % y<4294967296:=Nat.lt_trans (Nat.mod_lt _ hy) e2;have HWD:=Lib.hid (tL (x % y) w4 (by omega));generalize hmm:x % y=r at*;have HMM:=Lib.hid hmm;clear hmm
   go_wp2_with fail
   refine HWD.out.mono ?_;rintro e w5 ⟨ra,rc,rfl,hx5,hr5⟩;have HX5:=Lib.hid (HX4.out.tr hx5);have hz5:w.heap.size≤w4.heap.size:=HX4.out.size;have HR5:=Lib.hid (fH (S':=Mo no w.heap.size w5) (w':=w5) hr5 fun b hb=>⟨⟨.inr (Nat.le_trans hz5 (hb.1.resolve_left id)),hb.2⟩,rfl⟩);have HR6:=Lib.hid (fH (S':=Mo no w.heap.size w5) (w':=w5) HR4.out fun b hb=>⟨⟨.inr (Nat.le_trans hz4 (hb.1.resolve_left id)),Nat.lt_of_lt_of_le hb.2 hx5.size⟩,hx5.block b hb.2⟩);clear hx5 hr5
   go_wp2_with fail
   go_ret3
   refine⟨qa,qc,ra,rc,?_,HX5.out,?_,?_⟩
   ·rw[HMM.out];rfl
   ·exact HR6.out
   ·rw[HMM.out];exact HR5.out
  ·have h1b:(((ae y).length:Int)==1)=false:=by rw[beq_eq_false_iff_ne];omega
   have HLG:=Lib.hid (zB x y b1 b2 _ _ d1 d2 (w2.drewN qq) HR1D.out HR2D.out (by omega) (by omega) (by omega) (by omega));clear h1
   go_wp2_with fail
   refine HLG.out.mono ?_;rintro e w4 ⟨qa,qc,ra,rc,rfl,hx4,hr4,hr5⟩;have HX4:=Lib.hid (HX3.out.tr hx4);have hz4:w.heap.size≤w2.heap.size:=HX2.out.size;have HR4:=Lib.hid (fH (S':=Mo no w.heap.size w4) (w':=w4) hr4 fun b hb=>⟨⟨.inr (Nat.le_trans hz4 (hb.1.resolve_left id)),hb.2⟩,rfl⟩);have HR5:=Lib.hid (fH (S':=Mo no w.heap.size w4) (w':=w4) hr5 fun b hb=>⟨⟨.inr (Nat.le_trans hz4 (hb.1.resolve_left id)),hb.2⟩,rfl⟩);clear hx4 hr4 hr5 HLG
   go_wp2_with fail
   go_ret3
   refine⟨qa,qc,ra,rc,?_,HX4.out,?_,?_⟩
   ·rfl
   ·exact HR4.out
   ·exact HR5.out
theorem Ak{S:Nat→Prop}{w w1 w2:World}(hx:bg w w1)(b:Nat)(hb:Mo no w1.heap.size w2 b):Mo S w.heap.size w2 b:=⟨.inr (Nat.le_trans hx.size (hb.1.resolve_left id)),hb.2⟩
theorem AT(l m:List Nat)(a a':Option Addr)(n n' c c':Nat)(w:World)(h:Rp.lst.rel (Lt w.heap.size) w [.slice a n c] l)(h':Rp.lst.rel (Lt w.heap.size) w [.slice a' n' c'] m)
  (hl:l.length≤100000000) (hm:m.length≤100000000):
  Calls Tryz.prog 212 #[.slice a n c,.slice a' n' c'] w (NatAns (Nat.gcd (aa 4294967296 l) (aa 4294967296 m)) w):=by
 obtain⟨rfl,h1,h2⟩:=bG h;obtain⟨rfl,h1',h2'⟩:=bG h';have hpl:(ae (aa 4294967296 l)).length≤l.length:=(bM (B:=4294967296) (by decide) (dM h)).2;have hql:(ae (aa 4294967296 m)).length≤m.length:=(bM (B:=4294967296) (by decide) (dM h')).2;have H2:=Lib.hid h';clear h';have HN1:=Lib.hid (dj l a _ c w _ h (by omega));clear h
 go_enter Tryz.func212,Tryz.ntmps212
 go_wp2_with fail
 refine HN1.out.mono ?_;rintro e w1 ⟨b1,d1,rfl,hx1,hr1⟩;have HX1:=Lib.hid hx1;have HN2:=Lib.hid (dj m a' _ c' w1 _ ((Rp.slice _).below H2.out hx1 hx1.size) (by omega));have HR1:=Lib.hid hr1;clear hx1 hr1 HN1
 go_wp2_with fail
 refine HN2.out.mono ?_;rintro e w2 ⟨b2,d2,rfl,hx2,hr2⟩;have HX2:=Lib.hid (HX1.out.tr hx2);have HR1':=Lib.hid (fH (S':=Mo no w.heap.size w2) (w':=w2) HR1.out fun b hb=>⟨⟨hb.1,Nat.lt_of_lt_of_le hb.2 hx2.size⟩,hx2.block b hb.2⟩);have HR2':=Lib.hid (fH (S':=Mo no w.heap.size w2) (w':=w2) hr2 fun b hb=>⟨Ak HX1.out b hb,rfl⟩);clear hx2 hr2 HN2 HR1 H2 h1 h2 h1' h2'
 go_wp2
 go_loopg [0,1] (aa 4294967296 m) (fun gk s0 s1 wr=>∃ (x:Nat) (a a':Option Addr) (c c':Nat),s0= .slice a (ae x).length c∧s1= .slice a' (ae gk).length c'∧(ae x).length≤100000000∧(ae gk).length≤100000000∧Hid (Nat.gcd x gk=Nat.gcd (aa 4294967296 l) (aa 4294967296 m))∧
  Hid (Rp.lst.rel (Mo no w.heap.size wr) wr [s0] (ae x))∧Hid (Rp.lst.rel (Mo no w.heap.size wr) wr [s1] (ae gk))∧Hid (bg w wr))
 case atStart=>exact⟨_,b1,b2,d1,d2,rfl,rfl,Nat.le_trans hpl hl,Nat.le_trans hql hm,rfl,HR1'.out,HR2'.out,HX2.out⟩
 case round=>
  obtain⟨x,a,a',c,c',rfl,rfl,hxl,hyl,HG,HX,HY,HE⟩:=hrel;by_cases h0:gk=0
  ·have HY0:=Lib.hid h0;have hl0:((0:Int)<((ae gk).length:Int))=False:=by rw[h0,bl];simp
   have hg:x=Nat.gcd (aa 4294967296 l) (aa 4294967296 m):=by rw[←HG.out,h0,Nat.gcd_zero_right]
   have HGG:=Lib.hid hg;have hnil:ae gk=[]:=by rw[h0,bl]
   clear hg h0
   go_wp2
   go_ret
   refine⟨a,c,?_,HE.out,?_⟩
   ·rw[←HGG.out];rfl
   ·rw[←HGG.out];exact HX.out
  ·have hyn:¬ ae gk=[]:=fun e=>h0 (limbs_eq_nil.1 e);have hlp:(0:Int)<((ae gk).length:Int):=by have:=List.length_pos_iff.2 hyn;omega
   have hdm:=pX (ae x) (ae gk) a a' _ _ c c' wr (fH HX.out fun b hb=>⟨hb.2,rfl⟩) (fH HY.out fun b hb=>⟨hb.2,rfl⟩) hxl hyl (by rw[ax];omega);rw[ax,ax]at hdm;have HDM:=Lib.hid hdm;have hlt:x % gk<gk:=Nat.mod_lt _ (by omega);have HG2:Hid (Nat.gcd gk (x % gk)=Nat.gcd (aa 4294967296 l) (aa 4294967296 m)):=by
    show _=_;rw[Nat.gcd_comm,←Nat.gcd_rec,Nat.gcd_comm];exact HG.out
   have hll:(ae (x % gk)).length≤100000000:=Nat.le_trans (bN (by decide) (Nat.le_of_lt hlt)) hyl;clear hdm
   go_wp2_with fail
   refine HDM.out.mono ?_;rintro e w3 ⟨qa,qc,ra,rc,rfl,hx3,_,hr3⟩;have HE3:=Lib.hid (HE.out.tr hx3);have HY3:=Lib.hid (fH (S':=Mo no w.heap.size w3) (w':=w3) HY.out fun b hb=>⟨⟨hb.1,Nat.lt_of_lt_of_le hb.2 hx3.size⟩,hx3.block b hb.2⟩);have HR3:=Lib.hid (fH (S':=Mo no w.heap.size w3) (w':=w3) hr3 fun b hb=>⟨Ak HE.out b hb,rfl⟩);clear hx3 hr3
   go_wp2
   go_roundg (x % gk)
   case measure=>exact hlt
   case rel=>exact⟨gk,a',ra,c',rc,rfl,rfl,hyl,hll,HG2.out,HY3.out,HR3.out,HE3.out⟩
section
variable {α:Type}{R:Rp α}{enc:α→Value}{ok:α→Prop}{S:Nat→Prop}{w:World}
theorem One.Ds(O:One R enc ok)(h1:∀ x,(enc x).oneCell'=true){v:Value}{xs:List α}(h:(Rp.slice R).rel S w [v] xs):RD S w v (.l (xs.map fun x=>[.v (enc x)])):=by
 obtain⟨a,c,e,h2,h3,h4⟩:=h;injection e with e;subst e;refine RD.kC (k:=1) (css:=xs.map fun x=>[enc x]) (by simp) h2 h3 (by simp) (fun i h=>by simp) (fun i h h'=>?_) (fun hp=>?_)
 ·simp only[List.getElem_map];exact .cons (.v (h1 _)) .nil
 ·obtain⟨b,o,ha,hb,hel⟩:=h4 hp;refine⟨b,o,ha,hb,fun i hi j v hv=>?_⟩;have hi':i<xs.length:=by simpa using hi
  obtain⟨es,hr,hc⟩:=hel i hi';obtain⟨rfl,_⟩:=O.rel.1 hr;simp only[List.getElem_map]at hv;have hj:j=0:=by
   have:=(List.getElem?_eq_some_iff.1 hv).1;simpa using this
  subst hj;have:=hc 0 (by simp);rw[O.k]at this;simp only[List.getElem?_cons_zero,Option.some.injEq]at hv;subst hv;simpa[Nat.add_assoc] using this
theorem One.Dx(O:One R enc ok){v:Value}{xs:List α}(h:RD S w v (.l (xs.map fun x=>[.v (enc x)])))(hok:∀ x∈xs,ok x):(Rp.slice R).rel S w [v] xs:=by
 cases v with
 | slice a n c=>
   obtain⟨hn,hc,hm,k,css,hl,hk,hr,ha⟩:=RD.cells h;have hlx:n=xs.length:=by simpa using hn
   subst hlx;refine⟨a,c,rfl,hc,hm,fun hp=>?_⟩;obtain⟨b,o,e,hb,hcell⟩:=ha hp;refine⟨b,o,e,hb,fun i hi=>?_⟩;have hk1:k=1:=by rw[←hk i (by simpa using hi)];simp
   subst hk1;have hi':i<css.length:=by rw[hl];simpa using hi
   have hrr:=hr i hi' (by simpa using hi);simp only[List.getElem_map]at hrr;obtain⟨u,h1,h2⟩:=hrr.at (i:=0) rfl;have h2':u=enc xs[i]:=by cases h2;rfl
   refine⟨[enc xs[i]],O.rel.2 ⟨rfl,hok _ (List.getElem_mem hi)⟩,fun j hj=>?_⟩;have hj:j=0:=by simpa using hj
   subst hj;rw[O.k];have:=hcell i hi' 0 u h1;rw[h2']at this;simpa[Nat.add_assoc] using this
 | _=>cases h
end
theorem lu:ae 1=[1]:=by unfold ae;rw[jt (by decide) (by decide)];rw[show 1 / 4294967296=0 by decide,el]
theorem tR{k n:Nat}(h:n<2^k)(hk:k≤100000000):(ae n).length≤100000000:=Nat.le_trans (iA h) hk
def iG(d:Nat):List Nat:=if d=1 then []else ae d
def cL(q:Rat):Int:=if q.num<0 then-1 else if q.num=0 then 0 else 1
def aJ(l:List Nat):D:= .l (l.map fun c=>[.v (dz c)])
def bp(l:List Bool):D:= .l (l.map fun b=>[.v (fh b)])
def aN(q:Rat):List D:=[.v (.bool (decide (q.num<0))),aJ (ae q.num.natAbs),aJ (iG q.den)]
def aS(q:Rat):List D:=[.v (.bool (decide (q.num<0))),bp (bits q.num.natAbs),bp (bits q.den)]
section
variable {S:Nat→Prop}{w:World}{v:Value}
theorem RVs.one{us:List Value}{x:DV}(h:RVs S w us [x]):∃ u,us=[u]∧RV S w u x:=by
 match us,h with
 | [u],h=>exact⟨u,rfl,h.2 0 (by simp) (by simp)⟩
 | [],h=>exact absurd h.1 (by simp)
 | _::_::_,h=>exact absurd h.1 (by simp)
theorem RVs.two{us:List Value}{x y:DV}(h:RVs S w us [x,y]):∃ u v,us=[u,v]∧RV S w u x∧RV S w v y:=by
 match us,h with
 | [u,v],h=>exact⟨u,v,rfl,h.2 0 (by simp) (by simp),h.2 1 (by simp) (by simp)⟩
 | [],h=>exact absurd h.1 (by simp)
 | [_],h=>exact absurd h.1 (by simp)
 | _::_::_::_,h=>exact absurd h.1 (by simp)
end
abbrev ET(S:Nat→Prop)(w w':World):Nat→Prop:=fun b=>(S b∨w.heap.size≤b)∧b<w'.heap.size
theorem yM{S:Nat→Prop}{w w':World}:∀ b,Mo no w.heap.size w' b→ET S w w' b:=fun _ hb=>⟨.inr (hb.1.resolve_left id),hb.2⟩
theorem RV.mono{S S':Nat→Prop}{w:World}{u:Value}{x:DV}(h:RV S w u x)(hs:∀ b,S b→S' b):RV S' w u x:=h.keep fun b hb=>⟨hs b hb,rfl⟩
abbrev lh(l:List Nat):Prop:=∀ x∈l,x<4294967296
theorem eB{S:Nat→Prop}{w:World}{v:Value}{l:List Nat}(hS:∀ b,S b→b<w.heap.size)(h:RV S w v (.d (aJ l)))(hd:lh l):∃ a c,v= .slice a l.length c∧Rp.lst.rel (Lt w.heap.size) w [.slice a l.length c] l:=by
 have q:=oneU.Dx (RD.mono h hS) hd;obtain⟨a,c,e,_⟩:=id q;injection e with e;subst e;exact⟨a,c,rfl,q⟩
theorem hG{S:Nat→Prop}{w w':World}{v:Value}{l:List Nat}(h:Rp.lst.rel (Mo no w.heap.size w') w' [v] l):RV (ET S w w') w' v (.d (aJ l)):=RD.mono (oneU.Ds (fun _=>rfl) h) yM
section
variable {l m:List Nat}(hl:lh l)(hm:lh m)
include hl
theorem mq(h1:l.length≤100000000):Fn Tryz.prog 160 [.d (aJ l)] [.d (aJ (ae (aa 4294967296 l)))]:=
 ⟨⟨_,Tryz.func160,by kernel_rfl,by kernel_rfl⟩,fun S w vs hS hv=>by
   obtain⟨u,rfl,ha⟩:=hv.one;obtain⟨a,c,rfl,q⟩:=eB hS ha hl;refine(dj l a _ c w _ q (by omega)).mono ?_;rintro e w' ⟨a,c,rfl,hx,hr⟩;exact⟨_,rfl,hx,hG hr⟩⟩
end
section
variable {l m:List Nat}(hl:lh l)(hm:lh m)
include hl hm
theorem Cl:Fn Tryz.prog 213 [.d (aJ l),.d (aJ m)] [.d (.v (.int .i64 (cF (aa 4294967296 l) (aa 4294967296 m))))]:=
 ⟨⟨_,Tryz.func213,by kernel_rfl,by kernel_rfl⟩,fun S w vs hS hv=>by
   obtain⟨u,v,rfl,ha,hb⟩:=hv.two;obtain⟨a,c,rfl,q⟩:=eB hS ha hl;obtain⟨a',c',rfl,q'⟩:=eB hS hb hm;refine(oJ l m a a' _ _ c c' w _ _ q q').mono ?_;rintro e w' ⟨rfl,q,rfl⟩;exact⟨_,rfl,(Below.refl _ _).drN q,RD.v rfl⟩⟩
theorem Ff(h1:l.length≤500000000)(h2:m.length≤500000000):Fn Tryz.prog 209 [.d (aJ l),.d (aJ m)] [.d (aJ (ae (aa 4294967296 l+aa 4294967296 m)))]:=
 ⟨⟨_,Tryz.func209,by kernel_rfl,by kernel_rfl⟩,fun S w vs hS hv=>by
   obtain⟨u,v,rfl,ha,hb⟩:=hv.two;obtain⟨a,c,rfl,q⟩:=eB hS ha hl;obtain⟨a',c',rfl,q'⟩:=eB hS hb hm;refine(BA l m a a' _ _ c c' w q q' h1 h2).mono ?_;rintro e w' ⟨a,c,rfl,hx,hr⟩;exact⟨_,rfl,hx,hG hr⟩⟩
theorem Fm(h1:l.length≤500000000)(h2:m.length≤500000000):Fn Tryz.prog 169 [.d (aJ l),.d (aJ m)] [.d (aJ (ae (aa 4294967296 l*aa 4294967296 m)))]:=
 ⟨⟨_,Tryz.func169,by kernel_rfl,by kernel_rfl⟩,fun S w vs hS hv=>by
   obtain⟨u,v,rfl,ha,hb⟩:=hv.two;obtain⟨a,c,rfl,q⟩:=eB hS ha hl;obtain⟨a',c',rfl,q'⟩:=eB hS hb hm;refine(Bb l m a a' _ _ c c' w q q' h1 h2).mono ?_;rintro e w' ⟨a,c,rfl,hx,hr⟩;exact⟨_,rfl,hx,hG hr⟩⟩
theorem E4(h1:l.length≤100000000)(h2:m.length≤100000000):Fn Tryz.prog 212 [.d (aJ l),.d (aJ m)] [.d (aJ (ae (Nat.gcd (aa 4294967296 l) (aa 4294967296 m))))]:=
 ⟨⟨_,Tryz.func212,by kernel_rfl,by kernel_rfl⟩,fun S w vs hS hv=>by
   obtain⟨u,v,rfl,ha,hb⟩:=hv.two;obtain⟨a,c,rfl,q⟩:=eB hS ha hl;obtain⟨a',c',rfl,q'⟩:=eB hS hb hm;refine(AT l m a a' _ _ c c' w q q' h1 h2).mono ?_;rintro e w' ⟨a,c,rfl,hx,hr⟩;exact⟨_,rfl,hx,hG hr⟩⟩
theorem Ea(h:aa 4294967296 l<aa 4294967296 m):Fn Tryz.prog 210 [.d (aJ l),.d (aJ m)] [.d (aJ (ae 0)),.d (.v (.bool false))]:=
 ⟨⟨_,Tryz.func210,by kernel_rfl,by kernel_rfl⟩,fun S w vs hS hv=>by
   obtain⟨u,v,rfl,ha,hb⟩:=hv.two;obtain⟨a,c,rfl,q⟩:=eB hS ha hl;obtain⟨a',c',rfl,q'⟩:=eB hS hb hm;refine(sub_lt l m a a' _ _ c c' w q q' h).mono ?_;rintro e w' ⟨a,c,rfl,hx,hr⟩;refine⟨_,rfl,hx,[.slice a _ c,.bool false],rfl,rfl,fun i h h'=>?_⟩
   match i,h with
   | 0,_=>exact hG hr
   | 1,_=>exact .v rfl⟩
theorem DL(h1:l.length≤500000000)(h:aa 4294967296 m≤aa 4294967296 l):Fn Tryz.prog 210 [.d (aJ l),.d (aJ m)] [.d (aJ (ae (aa 4294967296 l-aa 4294967296 m))),.d (.v (.bool true))]:=
 ⟨⟨_,Tryz.func210,by kernel_rfl,by kernel_rfl⟩,fun S w vs hS hv=>by
   obtain⟨u,v,rfl,ha,hb⟩:=hv.two;obtain⟨a,c,rfl,q⟩:=eB hS ha hl;obtain⟨a',c',rfl,q'⟩:=eB hS hb hm;refine(BX l m a a' _ _ c c' w q q' h1 h).mono ?_;rintro e w' ⟨a,c,rfl,hx,hr⟩;refine⟨_,rfl,hx,[.slice a _ c,.bool true],rfl,rfl,fun i h h'=>?_⟩
   match i,h with
   | 0,_=>exact hG hr
   | 1,_=>exact .v rfl⟩
theorem CH(h1:l.length≤100000000)(h2:m.length≤100000000)(hy:0<aa 4294967296 m):Fn Tryz.prog 214 [.d (aJ l),.d (aJ m)] [.d (aJ (ae (aa 4294967296 l / aa 4294967296 m))),.d (aJ (ae (aa 4294967296 l % aa 4294967296 m))),.d (.v (.bool true))]:=
 ⟨⟨_,Tryz.func214,by kernel_rfl,by kernel_rfl⟩,fun S w vs hS hv=>by
   obtain⟨u,v,rfl,ha,hb⟩:=hv.two;obtain⟨a,c,rfl,q⟩:=eB hS ha hl;obtain⟨a',c',rfl,q'⟩:=eB hS hb hm;refine(pX l m a a' _ _ c c' w q q' h1 h2 hy).mono ?_;rintro e w' ⟨a,c,a',c',rfl,hx,hr,hr'⟩;refine⟨_,rfl,hx,[.slice a _ c,.slice a' _ c',.bool true],rfl,rfl,fun i h h'=>?_⟩
   match i,h with
   | 0,_=>exact hG hr
   | 1,_=>exact hG hr'
   | 2,_=>exact .v rfl⟩
end
theorem DY(u:Nat)(hu:u<18446744073709551616):Fn Tryz.prog 102 [.d (.v (.int .u64 (u:Int)))] [.d (aJ (ae u))]:=
 ⟨⟨_,Tryz.func102,by kernel_rfl,by kernel_rfl⟩,fun S w vs hS hv=>by
   obtain⟨v,rfl,ha⟩:=hv.one;have e1:v= .int .u64 (u:Int):=by cases ha;rfl
   subst e1;refine(tL u w hu).mono ?_;rintro e w' ⟨a,c,rfl,hx,hr⟩;exact⟨_,rfl,hx,hG hr⟩⟩
theorem bX(x:Nat):lh (ae x):=cv x
section
variable {x y:Nat}
theorem E3(h1:(ae x).length≤500000000)(h2:(ae y).length≤500000000):Fn Tryz.prog 209 [.d (aJ (ae x)),.d (aJ (ae y))] [.d (aJ (ae (x+y)))]:=by have:=Ff (bX x) (bX y) h1 h2;rwa[ax,ax]at this
theorem uq(h1:(ae x).length≤500000000)(h2:(ae y).length≤500000000):Fn Tryz.prog 169 [.d (aJ (ae x)),.d (aJ (ae y))] [.d (aJ (ae (x*y)))]:=by have:=Fm (bX x) (bX y) h1 h2;rwa[ax,ax]at this
theorem Cf(h:x<y):Fn Tryz.prog 210 [.d (aJ (ae x)),.d (aJ (ae y))] [.d (aJ []),.d (.v (.bool false))]:=by have:=Ea (bX x) (bX y) (by rwa[ax,ax]);rwa[bl]at this
theorem xK(h1:(ae x).length≤500000000)(h:y≤x):Fn Tryz.prog 210 [.d (aJ (ae x)),.d (aJ (ae y))] [.d (aJ (ae (x-y))),.d (.v (.bool true))]:=by have:=DL (bX x) (bX y) h1 (by rwa[ax,ax]);rwa[ax,ax]at this
end
instance:Sz Tryz.prog 3 false 1:= .mk' (by kernel_rfl)
instance:It Tryz.prog 3 .i64:=⟨by kernel_rfl⟩
instance:Sz Tryz.prog 4 false 1:= .mk' (by kernel_rfl)
instance:Zr Tryz.prog 4 [.bool false]:= .mk' (by kernel_rfl)
instance:Sz Tryz.prog 5 false 1:= .mk' (by kernel_rfl)
instance:It Tryz.prog 5 .u8:=⟨by kernel_rfl⟩
instance:Sz Tryz.prog 9 false 1:= .mk' (by kernel_rfl)
instance:It Tryz.prog 21 .i32:=⟨by kernel_rfl⟩
instance:Sl Tryz.prog 27 119 3 56:=⟨.of (by kernel_rfl) (by kernel_rfl)⟩
instance:Sl Tryz.prog 31 3 1 8:=⟨.of (by kernel_rfl) (by kernel_rfl)⟩
instance:Sz Tryz.prog 32 false 1:= .mk' (by kernel_rfl)
instance:Sz Tryz.prog 74 false 1:= .mk' (by kernel_rfl)
instance:Sl Tryz.prog 74 76 3 40:=⟨.of (by kernel_rfl) (by kernel_rfl)⟩
instance:Sz Tryz.prog 76 true 3:= .mk' (by kernel_rfl)
instance:Zr Tryz.prog 76 [.int .i64 0,.int .i64 0,.slice none 0 0]:= .mk' (by kernel_rfl)
instance:Fl Tryz.prog 76 0 0:= .mk' (n:=0) (by kernel_rfl)
instance:Fl Tryz.prog 76 1 1:= .mk' (n:=0) (by kernel_rfl)
instance:Fl Tryz.prog 76 2 2:= .mk' (n:=0) (by kernel_rfl)
instance:Stt Tryz.prog 76 [(0,1),(1,1),(2,1)]:= .mk' (by kernel_rfl)
instance:Sz Tryz.prog 80 false 1:= .mk' (by kernel_rfl)
instance:Sl Tryz.prog 80 152 6 112:=⟨.of (by kernel_rfl) (by kernel_rfl)⟩
instance:Sz Tryz.prog 81 false 1:= .mk' (by kernel_rfl)
instance:Sl Tryz.prog 81 157 5 88:=⟨.of (by kernel_rfl) (by kernel_rfl)⟩
instance:Sz Tryz.prog 83 true 5:= .mk' (by kernel_rfl)
instance:Zr Tryz.prog 83 [.slice none 0 0,.slice none 0 0,.int .i64 0,.int .i64 0,.slice none 0 0]:= .mk' (by kernel_rfl)
instance:Fl Tryz.prog 83 0 0:= .mk' (n:=0) (by kernel_rfl)
instance:Fl Tryz.prog 83 1 1:= .mk' (n:=0) (by kernel_rfl)
instance:Fl Tryz.prog 83 2 2:= .mk' (n:=2) (by kernel_rfl)
instance:Stt Tryz.prog 83 [(0,1),(1,1),(2,3)]:= .mk' (by kernel_rfl)
instance:Sz Tryz.prog 86 false 1:= .mk' (by kernel_rfl)
instance:Sl Tryz.prog 86 172 6 112:=⟨.of (by kernel_rfl) (by kernel_rfl)⟩
instance:Sz Tryz.prog 87 false 1:= .mk' (by kernel_rfl)
instance:Sl Tryz.prog 87 177 5 88:=⟨.of (by kernel_rfl) (by kernel_rfl)⟩
instance:Sz Tryz.prog 88 false 1:= .mk' (by kernel_rfl)
instance:Sl Tryz.prog 88 90 3 40:=⟨.of (by kernel_rfl) (by kernel_rfl)⟩
instance:Sz Tryz.prog 90 true 3:= .mk' (by kernel_rfl)
instance:Zr Tryz.prog 90 [.int .i64 0,.int .i64 0,.slice none 0 0]:= .mk' (by kernel_rfl)
instance:Fl Tryz.prog 90 0 0:= .mk' (n:=0) (by kernel_rfl)
instance:Fl Tryz.prog 90 1 1:= .mk' (n:=0) (by kernel_rfl)
instance:Fl Tryz.prog 90 2 2:= .mk' (n:=0) (by kernel_rfl)
instance:Stt Tryz.prog 90 [(0,1),(1,1),(2,1)]:= .mk' (by kernel_rfl)
instance:Sz Tryz.prog 92 true 5:= .mk' (by kernel_rfl)
instance:Zr Tryz.prog 92 [.slice none 0 0,.slice none 0 0,.int .i64 0,.int .i64 0,.slice none 0 0]:= .mk' (by kernel_rfl)
instance:Fl Tryz.prog 92 0 0:= .mk' (n:=0) (by kernel_rfl)
instance:Fl Tryz.prog 92 1 1:= .mk' (n:=0) (by kernel_rfl)
instance:Fl Tryz.prog 92 2 2:= .mk' (n:=2) (by kernel_rfl)
instance:Stt Tryz.prog 92 [(0,1),(1,1),(2,3)]:= .mk' (by kernel_rfl)
instance:Sz Tryz.prog 108 false 1:= .mk' (by kernel_rfl)
instance:Sl Tryz.prog 108 188 3 48:=⟨.of (by kernel_rfl) (by kernel_rfl)⟩
instance:Sz Tryz.prog 112 false 1:= .mk' (by kernel_rfl)
instance:Sl Tryz.prog 112 210 3 48:=⟨.of (by kernel_rfl) (by kernel_rfl)⟩
instance:Sz Tryz.prog 117 false 1:= .mk' (by kernel_rfl)
instance:Sl Tryz.prog 117 229 1 4:=⟨.of (by kernel_rfl) (by kernel_rfl)⟩
instance:Sz Tryz.prog 119 true 3:= .mk' (by kernel_rfl)
instance:Zr Tryz.prog 119 [.bool false,.slice none 0 0,.slice none 0 0]:= .mk' (by kernel_rfl)
instance:Fl Tryz.prog 119 0 0:= .mk' (n:=0) (by kernel_rfl)
instance:Fl Tryz.prog 119 1 1:= .mk' (n:=0) (by kernel_rfl)
instance:Fl Tryz.prog 119 2 2:= .mk' (n:=0) (by kernel_rfl)
instance:Stt Tryz.prog 119 [(0,1),(1,1),(2,1)]:= .mk' (by kernel_rfl)
instance:Sz Tryz.prog 134 false 1:= .mk' (by kernel_rfl)
instance:Sl Tryz.prog 134 4 1 1:=⟨.of (by kernel_rfl) (by kernel_rfl)⟩
instance:Sz Tryz.prog 136 true 3:= .mk' (by kernel_rfl)
instance:Zr Tryz.prog 136 [.bool false,.slice none 0 0,.slice none 0 0]:= .mk' (by kernel_rfl)
instance:Fl Tryz.prog 136 0 0:= .mk' (n:=0) (by kernel_rfl)
instance:Fl Tryz.prog 136 1 1:= .mk' (n:=0) (by kernel_rfl)
instance:Fl Tryz.prog 136 2 2:= .mk' (n:=0) (by kernel_rfl)
instance:Stt Tryz.prog 136 [(0,1),(1,1),(2,1)]:= .mk' (by kernel_rfl)
instance:Sl Tryz.prog 141 9 1 16:=⟨.of (by kernel_rfl) (by kernel_rfl)⟩
instance:Sz Tryz.prog 152 true 6:= .mk' (by kernel_rfl)
instance:Zr Tryz.prog 152 [.bool false,.slice none 0 0,.slice none 0 0,.bool false,.slice none 0 0,.slice none 0 0]:= .mk' (by kernel_rfl)
instance:Fl Tryz.prog 152 0 0:= .mk' (n:=2) (by kernel_rfl)
instance:Fl Tryz.prog 152 1 3:= .mk' (n:=2) (by kernel_rfl)
instance:Stt Tryz.prog 152 [(0,3),(3,3)]:= .mk' (by kernel_rfl)
instance:Sz Tryz.prog 153 false 1:= .mk' (by kernel_rfl)
instance:Sl Tryz.prog 153 161 4 64:=⟨.of (by kernel_rfl) (by kernel_rfl)⟩
instance:Sz Tryz.prog 155 true 4:= .mk' (by kernel_rfl)
instance:Zr Tryz.prog 155 [.slice none 0 0,.bool false,.slice none 0 0,.slice none 0 0]:= .mk' (by kernel_rfl)
instance:Fl Tryz.prog 155 0 0:= .mk' (n:=0) (by kernel_rfl)
instance:Fl Tryz.prog 155 1 1:= .mk' (n:=2) (by kernel_rfl)
instance:Stt Tryz.prog 155 [(0,1),(1,3)]:= .mk' (by kernel_rfl)
instance:Sz Tryz.prog 157 true 5:= .mk' (by kernel_rfl)
instance:Zr Tryz.prog 157 [.slice none 0 0,.bool false,.slice none 0 0,.slice none 0 0,.int .i64 0]:= .mk' (by kernel_rfl)
instance:Fl Tryz.prog 157 0 0:= .mk' (n:=3) (by kernel_rfl)
instance:Fl Tryz.prog 157 1 4:= .mk' (n:=0) (by kernel_rfl)
instance:Stt Tryz.prog 157 [(0,4),(4,1)]:= .mk' (by kernel_rfl)
instance:Sz Tryz.prog 161 true 4:= .mk' (by kernel_rfl)
instance:Zr Tryz.prog 161 [.int .i64 0,.bool false,.slice none 0 0,.slice none 0 0]:= .mk' (by kernel_rfl)
instance:Fl Tryz.prog 161 0 0:= .mk' (n:=0) (by kernel_rfl)
instance:Fl Tryz.prog 161 1 1:= .mk' (n:=2) (by kernel_rfl)
instance:Stt Tryz.prog 161 [(0,1),(1,3)]:= .mk' (by kernel_rfl)
instance:Sz Tryz.prog 172 true 6:= .mk' (by kernel_rfl)
instance:Zr Tryz.prog 172 [.bool false,.slice none 0 0,.slice none 0 0,.bool false,.slice none 0 0,.slice none 0 0]:= .mk' (by kernel_rfl)
instance:Fl Tryz.prog 172 0 0:= .mk' (n:=2) (by kernel_rfl)
instance:Fl Tryz.prog 172 1 3:= .mk' (n:=2) (by kernel_rfl)
instance:Stt Tryz.prog 172 [(0,3),(3,3)]:= .mk' (by kernel_rfl)
instance:Sz Tryz.prog 173 false 1:= .mk' (by kernel_rfl)
instance:Sl Tryz.prog 173 179 4 64:=⟨.of (by kernel_rfl) (by kernel_rfl)⟩
instance:Sz Tryz.prog 175 true 4:= .mk' (by kernel_rfl)
instance:Zr Tryz.prog 175 [.slice none 0 0,.bool false,.slice none 0 0,.slice none 0 0]:= .mk' (by kernel_rfl)
instance:Fl Tryz.prog 175 0 0:= .mk' (n:=0) (by kernel_rfl)
instance:Fl Tryz.prog 175 1 1:= .mk' (n:=2) (by kernel_rfl)
instance:Stt Tryz.prog 175 [(0,1),(1,3)]:= .mk' (by kernel_rfl)
instance:Sz Tryz.prog 177 true 5:= .mk' (by kernel_rfl)
instance:Zr Tryz.prog 177 [.slice none 0 0,.bool false,.slice none 0 0,.slice none 0 0,.int .i64 0]:= .mk' (by kernel_rfl)
instance:Fl Tryz.prog 177 0 0:= .mk' (n:=3) (by kernel_rfl)
instance:Fl Tryz.prog 177 1 4:= .mk' (n:=0) (by kernel_rfl)
instance:Stt Tryz.prog 177 [(0,4),(4,1)]:= .mk' (by kernel_rfl)
instance:Sz Tryz.prog 179 true 4:= .mk' (by kernel_rfl)
instance:Zr Tryz.prog 179 [.int .i64 0,.bool false,.slice none 0 0,.slice none 0 0]:= .mk' (by kernel_rfl)
instance:Fl Tryz.prog 179 0 0:= .mk' (n:=0) (by kernel_rfl)
instance:Fl Tryz.prog 179 1 1:= .mk' (n:=2) (by kernel_rfl)
instance:Stt Tryz.prog 179 [(0,1),(1,3)]:= .mk' (by kernel_rfl)
instance:Sz Tryz.prog 188 true 3:= .mk' (by kernel_rfl)
instance:Zr Tryz.prog 188 [.bool false,.string ⟨#[]⟩,.slice none 0 0]:= .mk' (by kernel_rfl)
instance:Fl Tryz.prog 188 0 0:= .mk' (n:=0) (by kernel_rfl)
instance:Fl Tryz.prog 188 1 1:= .mk' (n:=0) (by kernel_rfl)
instance:Fl Tryz.prog 188 2 2:= .mk' (n:=0) (by kernel_rfl)
instance:Stt Tryz.prog 188 [(0,1),(1,1),(2,1)]:= .mk' (by kernel_rfl)
instance:Zr Tryz.prog 196 [.int .i64 0,.slice none 0 0,.bool false]:= .mk' (by kernel_rfl)
instance:Fl Tryz.prog 196 0 0:= .mk' (n:=0) (by kernel_rfl)
instance:Fl Tryz.prog 196 1 1:= .mk' (n:=0) (by kernel_rfl)
instance:Fl Tryz.prog 196 2 2:= .mk' (n:=0) (by kernel_rfl)
instance:Stt Tryz.prog 196 [(0,1),(1,1),(2,1)]:= .mk' (by kernel_rfl)
instance:Sl Tryz.prog 201 204 3 32:=⟨.of (by kernel_rfl) (by kernel_rfl)⟩
instance:Sz Tryz.prog 204 true 3:= .mk' (by kernel_rfl)
instance:Zr Tryz.prog 204 [.int .u8 0,.int .i64 0,.string ⟨#[]⟩]:= .mk' (by kernel_rfl)
instance:Fl Tryz.prog 204 0 0:= .mk' (n:=0) (by kernel_rfl)
instance:Fl Tryz.prog 204 1 1:= .mk' (n:=0) (by kernel_rfl)
instance:Stt Tryz.prog 204 [(0,1),(1,1),(2,1)]:= .mk' (by kernel_rfl)
instance:Zr Tryz.prog 207 [.string ⟨#[]⟩,.int .i64 0,.int .i64 0,.int .i64 0,.int .i64 0]:= .mk' (by kernel_rfl)
instance:Fl Tryz.prog 207 0 0:= .mk' (n:=0) (by kernel_rfl)
instance:Fl Tryz.prog 207 1 1:= .mk' (n:=0) (by kernel_rfl)
instance:Fl Tryz.prog 207 2 2:= .mk' (n:=0) (by kernel_rfl)
instance:Fl Tryz.prog 207 3 3:= .mk' (n:=0) (by kernel_rfl)
instance:Fl Tryz.prog 207 4 4:= .mk' (n:=0) (by kernel_rfl)
instance:Stt Tryz.prog 207 [(0,1),(1,1),(2,1),(3,1),(4,1)]:= .mk' (by kernel_rfl)
instance:Sz Tryz.prog 210 true 3:= .mk' (by kernel_rfl)
instance:Zr Tryz.prog 210 [.bool false,.string ⟨#[]⟩,.slice none 0 0]:= .mk' (by kernel_rfl)
instance:Fl Tryz.prog 210 0 0:= .mk' (n:=0) (by kernel_rfl)
instance:Fl Tryz.prog 210 1 1:= .mk' (n:=0) (by kernel_rfl)
instance:Fl Tryz.prog 210 2 2:= .mk' (n:=0) (by kernel_rfl)
instance:Stt Tryz.prog 210 [(0,1),(1,1),(2,1)]:= .mk' (by kernel_rfl)
instance:It Tryz.prog 218 .u64:=⟨by kernel_rfl⟩
instance:Sz Tryz.prog 229 false 1:= .mk' (by kernel_rfl)
instance:It Tryz.prog 229 .u32:=⟨by kernel_rfl⟩
instance:Sl Tryz.prog 270 5 1 1:=⟨.of (by kernel_rfl) (by kernel_rfl)⟩
instance:It Tryz.prog 287 .u64:=⟨by kernel_rfl⟩
instance:Sl Tryz.prog 375 175 4 80:=⟨.of (by kernel_rfl) (by kernel_rfl)⟩
