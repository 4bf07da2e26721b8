import Derived.Test.YtbbpecfapohlaaaGreatDoorNumL
import Derived.Test.YtbbpecfapohlaaaGreatDoorBitsW
set_option maxRecDepth 100000
set_option maxHeartbeats 800000
namespace Go.Proofs.YtbbpecfapohlaaaGreatDoor
open Go.RowKit
theorem lst_to{S S':Nat→Prop}{w w':World}{cs:List Value}{l:List Nat}(h:Rp.lst.rel S w cs l)(hs:∀ b,S b→S' b∧w'.heap[b]?=w.heap[b]?):Rp.lst.rel S' w' cs l:=(Rp.slice _).keep h hs
theorem limbs_one_len{y:Nat}(h:(limbs y).length=1):limbs y=[y]∧y<4294967296:=by
 obtain⟨d,hd⟩:=List.length_eq_one_iff.1 h;have h1:=limbs_val y;have h2:=limbs_dg y;rw[hd]at h1 h2 ⊢;simp only[dval_cons,dval_nil]at h1;have:d=y:=by omega
 subst this;exact⟨rfl,h2 d (by simp)⟩
theorem limbs_eq_nil{y:Nat}:limbs y=[]↔y=0:=digs_eq_nil (by decide)
theorem divmod_any(l m:List Nat)(a a':Option Addr)(n n' c c':Nat)(w:World)(h:Rp.lst.rel (Lt w.heap.size) w [.slice a n c] l)(h':Rp.lst.rel (Lt w.heap.size) w [.slice a' n' c'] m)
  (hl:l.length≤100000000) (hm:m.length≤100000000) (hy:0<dval 4294967296 m):
  Calls Tryz.prog 275 #[.slice a n c,.slice a' n' c'] w (DivAns (dval 4294967296 l) (dval 4294967296 m) no w):=by
 obtain⟨rfl,h1,h2⟩:=lst_len h;obtain⟨rfl,h1',h2'⟩:=lst_len h';have hpl:(limbs (dval 4294967296 l)).length≤l.length:=(digs_take_len (B:=4294967296) (by decide) (lst_dg h)).2;have hql:(limbs (dval 4294967296 m)).length≤m.length:=(digs_take_len (B:=4294967296) (by decide) (lst_dg h')).2;have H1:=Lib.hid h;clear h;have H2:=Lib.hid h';clear h';have HN1:=Lib.hid (norm_any l a _ c w _ H1.out (by omega))
 go_enter Tryz.func275,Tryz.ntmps275
 go_wp2_with fail
 refine HN1.out.mono ?_;rintro e w1 ⟨b1,d1,rfl,hx1,hr1⟩;have HX1:=Lib.hid hx1;have HN2:=Lib.hid (norm_any m a' _ c' w1 _ ((Rp.slice _).below H2.out hx1 hx1.size) (by omega));have HR1:=Lib.hid hr1;clear hx1 hr1 HN1
 go_wp2_with fail
 refine HN2.out.mono ?_;rintro e w2 ⟨b2,d2,rfl,hx2,hr2⟩;have HX2:=Lib.hid (HX1.out.tr hx2);have hsz:=HX1.out.size;have HR1':=Lib.hid (lst_to (S':=Mo no w.heap.size w2) (w':=w2) HR1.out fun b hb=>⟨⟨hb.1,Nat.lt_of_lt_of_le hb.2 hx2.size⟩,hx2.block b hb.2⟩);have HR1L:=Lib.hid (lst_to (S':=Lt w2.heap.size) (w':=w2) HR1'.out fun b hb=>⟨hb.2,rfl⟩);have HR2L:=Lib.hid (lst_to (S':=Lt w2.heap.size) (w':=w2) hr2 fun b hb=>⟨hb.2,rfl⟩);clear hx2 hr2 HN2 HR1 H1 H2 h1 h2 h1' h2';generalize hx:dval 4294967296 l=x at*;generalize hyy:dval 4294967296 m=y at*;clear hx hyy;have hy1:0<(limbs y).length:=by
  rcases Nat.eq_zero_or_pos (limbs y).length with h0 | h0
  ·have:=limbs_eq_nil.1 (List.eq_nil_of_length_eq_zero h0);omega
  ·exact h0
 have hyn:¬ limbs y=[]:=fun e=>by rw[e]at hy1;simp at hy1
 have hyb:((limbs y).length==0)=false:=by rw[beq_eq_false_iff_ne];omega
 have hyb2:(((limbs y).length:Int)==0)=false:=by rw[beq_eq_false_iff_ne];omega
 have hcm:=cmp_any (limbs x) (limbs y) b1 b2 _ _ d1 d2 w2 _ _ HR1L.out HR2L.out;rw[limbs_val,limbs_val]at hcm;have HCM:=Lib.hid hcm;clear hcm
 go_wp2_with fail
 refine HCM.out.mono ?_;rintro e w3 ⟨rfl,qq,rfl⟩;have HR1D:=Lib.hid (Rp.drN _ HR1L.out qq);have HR2D:=Lib.hid (Rp.drN _ HR2L.out qq);have HX3:=Lib.hid (HX2.out.drN qq);by_cases hlt:x<y
 ·rw[cmpN_lt hlt];have HE:Hid (x / y=0∧x % y=x):=⟨Nat.div_eq_of_lt hlt,Nat.mod_eq_of_lt hlt⟩
  go_wp2
  go_ret3
  refine⟨none,0,b1,d1,?_,HX3.out,?_,?_⟩
  ·rw[HE.out.1,HE.out.2,limbs_zero];rfl
  ·rw[HE.out.1,limbs_zero];exact rel_nil
  ·rw[HE.out.2];exact Rp.drN _ HR1'.out qq
 ·have hc:0≤cmpN x y:=by unfold cmpN;rw[if_neg hlt];split<;>omega
  generalize cmpN x y=cm at*;by_cases h1:(limbs y).length=1
  ·obtain⟨e1,e2⟩:=limbs_one_len h1;obtain⟨bb,oo,rfl,_,g1,_⟩:=oneU.get HR2D.out 0 (by omega);have g1':(w2.drewN qq).cell? ⟨bb,oo,none⟩=some (.int .u32 (y:Int)):=by
    have e3:(limbs y)[0]'(by omega)=y:=by rw[List.getElem_of_eq e1];rfl
    rw[e3]at g1;exact g1
   have h1b:(((limbs y).length:Int)==1)=true:=by rw[beq_iff_eq];omega
   have hdw:=divword_any (limbs x) y b1 _ d1 (w2.drewN qq) HR1D.out (by omega) hy e2;rw[limbs_val]at hdw;have HDW:=Lib.hid hdw;have HE1:=Lib.hid e1;clear e1 g1 h1 hdw
   go_wp2_with fail
   refine HDW.out.mono ?_;rintro e w4 ⟨qa,qc,rfl,hx4,hr4⟩;have HX4:=Lib.hid (HX3.out.tr hx4);have hz4:w.heap.size≤w2.heap.size:=HX2.out.size;have HR4:=Lib.hid hr4;clear hx4 hr4 HDW;have hm1:x % y<4294967296:=Nat.lt_trans (Nat.mod_lt _ hy) e2;have HWD:=Lib.hid (word_any (x % y) w4 (by omega));generalize hmm:x % y=r at*;have HMM:=Lib.hid hmm;clear hmm
   go_wp2_with fail
   refine HWD.out.mono ?_;rintro e w5 ⟨ra,rc,rfl,hx5,hr5⟩;have HX5:=Lib.hid (HX4.out.tr hx5);have hz5:w.heap.size≤w4.heap.size:=HX4.out.size;have HR5:=Lib.hid (lst_to (S':=Mo no w.heap.size w5) (w':=w5) hr5 fun b hb=>⟨⟨.inr (Nat.le_trans hz5 (hb.1.resolve_left id)),hb.2⟩,rfl⟩);have HR6:=Lib.hid (lst_to (S':=Mo no w.heap.size w5) (w':=w5) HR4.out fun b hb=>⟨⟨.inr (Nat.le_trans hz4 (hb.1.resolve_left id)),Nat.lt_of_lt_of_le hb.2 hx5.size⟩,hx5.block b hb.2⟩);clear hx5 hr5
   go_wp2_with fail
   go_ret3
   refine⟨qa,qc,ra,rc,?_,HX5.out,?_,?_⟩
   ·rw[HMM.out];rfl
   ·exact HR6.out
   ·rw[HMM.out];exact HR5.out
  ·have h1b:(((limbs y).length:Int)==1)=false:=by rw[beq_eq_false_iff_ne];omega
   have HLG:=Lib.hid (long_any x y b1 b2 _ _ d1 d2 (w2.drewN qq) HR1D.out HR2D.out (by omega) (by omega) (by omega) (by omega));clear h1
   go_wp2_with fail
   refine HLG.out.mono ?_;rintro e w4 ⟨qa,qc,ra,rc,rfl,hx4,hr4,hr5⟩;have HX4:=Lib.hid (HX3.out.tr hx4);have hz4:w.heap.size≤w2.heap.size:=HX2.out.size;have HR4:=Lib.hid (lst_to (S':=Mo no w.heap.size w4) (w':=w4) hr4 fun b hb=>⟨⟨.inr (Nat.le_trans hz4 (hb.1.resolve_left id)),hb.2⟩,rfl⟩);have HR5:=Lib.hid (lst_to (S':=Mo no w.heap.size w4) (w':=w4) hr5 fun b hb=>⟨⟨.inr (Nat.le_trans hz4 (hb.1.resolve_left id)),hb.2⟩,rfl⟩);clear hx4 hr4 hr5 HLG
   go_wp2_with fail
   go_ret3
   refine⟨qa,qc,ra,rc,?_,HX4.out,?_,?_⟩
   ·rfl
   ·exact HR4.out
   ·exact HR5.out
theorem mo_up{S:Nat→Prop}{w w1 w2:World}(hx:Ext w w1)(b:Nat)(hb:Mo no w1.heap.size w2 b):Mo S w.heap.size w2 b:=⟨.inr (Nat.le_trans hx.size (hb.1.resolve_left id)),hb.2⟩
theorem gcd_any(l m:List Nat)(a a':Option Addr)(n n' c c':Nat)(w:World)(h:Rp.lst.rel (Lt w.heap.size) w [.slice a n c] l)(h':Rp.lst.rel (Lt w.heap.size) w [.slice a' n' c'] m)
  (hl:l.length≤100000000) (hm:m.length≤100000000):
  Calls Tryz.prog 273 #[.slice a n c,.slice a' n' c'] w (NatAns (Nat.gcd (dval 4294967296 l) (dval 4294967296 m)) w):=by
 obtain⟨rfl,h1,h2⟩:=lst_len h;obtain⟨rfl,h1',h2'⟩:=lst_len h';have hpl:(limbs (dval 4294967296 l)).length≤l.length:=(digs_take_len (B:=4294967296) (by decide) (lst_dg h)).2;have hql:(limbs (dval 4294967296 m)).length≤m.length:=(digs_take_len (B:=4294967296) (by decide) (lst_dg h')).2;have H2:=Lib.hid h';clear h';have HN1:=Lib.hid (norm_any l a _ c w _ h (by omega));clear h
 go_enter Tryz.func273,Tryz.ntmps273
 go_wp2_with fail
 refine HN1.out.mono ?_;rintro e w1 ⟨b1,d1,rfl,hx1,hr1⟩;have HX1:=Lib.hid hx1;have HN2:=Lib.hid (norm_any m a' _ c' w1 _ ((Rp.slice _).below H2.out hx1 hx1.size) (by omega));have HR1:=Lib.hid hr1;clear hx1 hr1 HN1
 go_wp2_with fail
 refine HN2.out.mono ?_;rintro e w2 ⟨b2,d2,rfl,hx2,hr2⟩;have HX2:=Lib.hid (HX1.out.tr hx2);have HR1':=Lib.hid (lst_to (S':=Mo no w.heap.size w2) (w':=w2) HR1.out fun b hb=>⟨⟨hb.1,Nat.lt_of_lt_of_le hb.2 hx2.size⟩,hx2.block b hb.2⟩);have HR2':=Lib.hid (lst_to (S':=Mo no w.heap.size w2) (w':=w2) hr2 fun b hb=>⟨mo_up HX1.out b hb,rfl⟩);clear hx2 hr2 HN2 HR1 H2 h1 h2 h1' h2'
 go_wp2
 go_loopg [0,1] (dval 4294967296 m) (fun gk s0 s1 wr=>∃ (x:Nat) (a a':Option Addr) (c c':Nat),s0= .slice a (limbs x).length c∧s1= .slice a' (limbs gk).length c'∧(limbs x).length≤100000000∧(limbs gk).length≤100000000∧Hid (Nat.gcd x gk=Nat.gcd (dval 4294967296 l) (dval 4294967296 m))∧
  Hid (Rp.lst.rel (Mo no w.heap.size wr) wr [s0] (limbs x))∧Hid (Rp.lst.rel (Mo no w.heap.size wr) wr [s1] (limbs gk))∧Hid (Ext w wr))
 case atStart=>exact⟨_,b1,b2,d1,d2,rfl,rfl,Nat.le_trans hpl hl,Nat.le_trans hql hm,rfl,HR1'.out,HR2'.out,HX2.out⟩
 case round=>
  obtain⟨x,a,a',c,c',rfl,rfl,hxl,hyl,HG,HX,HY,HE⟩:=hrel;by_cases h0:gk=0
  ·have HY0:=Lib.hid h0;have hl0:((0:Int)<((limbs gk).length:Int))=False:=by rw[h0,limbs_zero];simp
   have hg:x=Nat.gcd (dval 4294967296 l) (dval 4294967296 m):=by rw[←HG.out,h0,Nat.gcd_zero_right]
   have HGG:=Lib.hid hg;have hnil:limbs gk=[]:=by rw[h0,limbs_zero]
   clear hg h0
   go_wp2
   go_ret
   refine⟨a,c,?_,HE.out,?_⟩
   ·rw[←HGG.out];rfl
   ·rw[←HGG.out];exact HX.out
  ·have hyn:¬ limbs gk=[]:=fun e=>h0 (limbs_eq_nil.1 e);have hlp:(0:Int)<((limbs gk).length:Int):=by have:=List.length_pos_iff.2 hyn;omega
   have hdm:=divmod_any (limbs x) (limbs gk) a a' _ _ c c' wr (lst_to HX.out fun b hb=>⟨hb.2,rfl⟩) (lst_to HY.out fun b hb=>⟨hb.2,rfl⟩) hxl hyl (by rw[limbs_val];omega);rw[limbs_val,limbs_val]at hdm;have HDM:=Lib.hid hdm;have hlt:x % gk<gk:=Nat.mod_lt _ (by omega);have HG2:Hid (Nat.gcd gk (x % gk)=Nat.gcd (dval 4294967296 l) (dval 4294967296 m)):=by
    show _=_;rw[Nat.gcd_comm,←Nat.gcd_rec,Nat.gcd_comm];exact HG.out
   have hll:(limbs (x % gk)).length≤100000000:=Nat.le_trans (digs_len_mono (by decide) (Nat.le_of_lt hlt)) hyl;clear hdm
   go_wp2_with fail
   refine HDM.out.mono ?_;rintro e w3 ⟨qa,qc,ra,rc,rfl,hx3,_,hr3⟩;have HE3:=Lib.hid (HE.out.tr hx3);have HY3:=Lib.hid (lst_to (S':=Mo no w.heap.size w3) (w':=w3) HY.out fun b hb=>⟨⟨hb.1,Nat.lt_of_lt_of_le hb.2 hx3.size⟩,hx3.block b hb.2⟩);have HR3:=Lib.hid (lst_to (S':=Mo no w.heap.size w3) (w':=w3) hr3 fun b hb=>⟨mo_up HE.out b hb,rfl⟩);clear hx3 hr3
   go_wp2
   go_roundg (x % gk)
   case measure=>exact hlt
   case rel=>exact⟨gk,a',ra,c',rc,rfl,rfl,hyl,hll,HG2.out,HY3.out,HR3.out,HE3.out⟩
section
variable {α:Type}{R:Rp α}{enc:α→Value}{ok:α→Prop}{S:Nat→Prop}{w:World}
theorem One.toRD(O:One R enc ok)(h1:∀ x,(enc x).oneCell'=true){v:Value}{xs:List α}(h:(Rp.slice R).rel S w [v] xs):RD S w v (.l (xs.map fun x=>[.v (enc x)])):=by
 obtain⟨a,c,e,h2,h3,h4⟩:=h;injection e with e;subst e;refine RD.ofCells (k:=1) (css:=xs.map fun x=>[enc x]) (by simp) h2 h3 (by simp) (fun i h=>by simp) (fun i h h'=>?_) (fun hp=>?_)
 ·simp only[List.getElem_map];exact .cons (.v (h1 _)) .nil
 ·obtain⟨b,o,ha,hb,hel⟩:=h4 hp;refine⟨b,o,ha,hb,fun i hi j v hv=>?_⟩;have hi':i<xs.length:=by simpa using hi
  obtain⟨es,hr,hc⟩:=hel i hi';obtain⟨rfl,_⟩:=O.rel.1 hr;simp only[List.getElem_map]at hv;have hj:j=0:=by
   have:=(List.getElem?_eq_some_iff.1 hv).1;simpa using this
  subst hj;have:=hc 0 (by simp);rw[O.k]at this;simp only[List.getElem?_cons_zero,Option.some.injEq]at hv;subst hv;simpa[Nat.add_assoc] using this
theorem One.ofRD(O:One R enc ok){v:Value}{xs:List α}(h:RD S w v (.l (xs.map fun x=>[.v (enc x)])))(hok:∀ x∈xs,ok x):(Rp.slice R).rel S w [v] xs:=by
 cases v with
 | slice a n c=>
   obtain⟨hn,hc,hm,k,css,hl,hk,hr,ha⟩:=RD.cells h;have hlx:n=xs.length:=by simpa using hn
   subst hlx;refine⟨a,c,rfl,hc,hm,fun hp=>?_⟩;obtain⟨b,o,e,hb,hcell⟩:=ha hp;refine⟨b,o,e,hb,fun i hi=>?_⟩;have hk1:k=1:=by rw[←hk i (by simpa using hi)];simp
   subst hk1;have hi':i<css.length:=by rw[hl];simpa using hi
   have hrr:=hr i hi' (by simpa using hi);simp only[List.getElem_map]at hrr;obtain⟨u,h1,h2⟩:=hrr.at (i:=0) rfl;have h2':u=enc xs[i]:=by cases h2;rfl
   refine⟨[enc xs[i]],O.rel.2 ⟨rfl,hok _ (List.getElem_mem hi)⟩,fun j hj=>?_⟩;have hj:j=0:=by simpa using hj
   subst hj;rw[O.k];have:=hcell i hi' 0 u h1;rw[h2']at this;simpa[Nat.add_assoc] using this
 | _=>cases h
end
theorem limbs_one:limbs 1=[1]:=by unfold limbs;rw[digs_pos (by decide) (by decide)];rw[show 1 / 4294967296=0 by decide,digs_zero]
theorem bd_len{k n:Nat}(h:n<2^k)(hk:k≤100000000):(limbs n).length≤100000000:=Nat.le_trans (limbs_len_le' h) hk
def denL(d:Nat):List Nat:=if d=1 then []else limbs d
def sgnR(q:Rat):Int:=if q.num<0 then-1 else if q.num=0 then 0 else 1
def absR(q:Rat):Rat:=if q.num<0 then-q else q
def enL(l:List Nat):D:= .l (l.map fun c=>[.v (encU c)])
def enB(l:List Bool):D:= .l (l.map fun b=>[.v (encB b)])
def enR(q:Rat):List D:=[.v (.bool (decide (q.num<0))),enL (limbs q.num.natAbs),enL (denL q.den)]
def enQ(q:Rat):List D:=[.v (.bool (decide (q.num<0))),enB (bits q.num.natAbs),enB (bits q.den)]
section
variable {S:Nat→Prop}{w:World}{v:Value}
theorem RVs.one{us:List Value}{x:DV}(h:RVs S w us [x]):∃ u,us=[u]∧RV S w u x:=by
 match us,h with
 | [u],h=>exact⟨u,rfl,h.2 0 (by simp) (by simp)⟩
 | [],h=>exact absurd h.1 (by simp)
 | _::_::_,h=>exact absurd h.1 (by simp)
theorem RVs.two{us:List Value}{x y:DV}(h:RVs S w us [x,y]):∃ u v,us=[u,v]∧RV S w u x∧RV S w v y:=by
 match us,h with
 | [u,v],h=>exact⟨u,v,rfl,h.2 0 (by simp) (by simp),h.2 1 (by simp) (by simp)⟩
 | [],h=>exact absurd h.1 (by simp)
 | [_],h=>exact absurd h.1 (by simp)
 | _::_::_::_,h=>exact absurd h.1 (by simp)
theorem RVs.three{us:List Value}{x y z:DV}(h:RVs S w us [x,y,z]):∃ u v t,us=[u,v,t]∧RV S w u x∧RV S w v y∧RV S w t z:=by
 match us,h with
 | [u,v,t],h=>exact⟨u,v,t,rfl,h.2 0 (by simp) (by simp),h.2 1 (by simp) (by simp),h.2 2 (by simp) (by simp)⟩
 | [],h=>exact absurd h.1 (by simp)
 | [_],h=>exact absurd h.1 (by simp)
 | [_,_],h=>exact absurd h.1 (by simp)
 | _::_::_::_::_,h=>exact absurd h.1 (by simp)
end
abbrev Res(S:Nat→Prop)(w w':World):Nat→Prop:=fun b=>(S b∨w.heap.size≤b)∧b<w'.heap.size
theorem mo_res{S:Nat→Prop}{w w':World}:∀ b,Mo no w.heap.size w' b→Res S w w' b:=fun _ hb=>⟨.inr (hb.1.resolve_left id),hb.2⟩
theorem RV.mono{S S':Nat→Prop}{w:World}{u:Value}{x:DV}(h:RV S w u x)(hs:∀ b,S b→S' b):RV S' w u x:=h.keep fun b hb=>⟨hs b hb,rfl⟩
abbrev DgU(l:List Nat):Prop:=∀ x∈l,x<4294967296
theorem limbIn{S:Nat→Prop}{w:World}{v:Value}{l:List Nat}(hS:∀ b,S b→b<w.heap.size)(h:RV S w v (.d (enL l)))(hd:DgU l):∃ a c,v= .slice a l.length c∧Rp.lst.rel (Lt w.heap.size) w [.slice a l.length c] l:=by
 have q:=oneU.ofRD (RD.mono h hS) hd;obtain⟨a,c,e,_⟩:=id q;injection e with e;subst e;exact⟨a,c,rfl,q⟩
theorem limbOut{S:Nat→Prop}{w w':World}{v:Value}{l:List Nat}(h:Rp.lst.rel (Mo no w.heap.size w') w' [v] l):RV (Res S w w') w' v (.d (enL l)):=RD.mono (oneU.toRD (fun _=>rfl) h) mo_res
section
variable {l m:List Nat}(hl:DgU l)(hm:DgU m)
include hl
theorem normG(h1:l.length≤100000000):Fn Tryz.prog 211 [.d (enL l)] [.d (enL (limbs (dval 4294967296 l)))]:=
 ⟨⟨_,Tryz.func211,by kernel_rfl,by kernel_rfl⟩,fun S w vs hS hv=>by
   obtain⟨u,rfl,ha⟩:=hv.one;obtain⟨a,c,rfl,q⟩:=limbIn hS ha hl;refine(norm_any l a _ c w _ q (by omega)).mono ?_;rintro e w' ⟨a,c,rfl,hx,hr⟩;exact⟨_,rfl,hx,limbOut hr⟩⟩
end
section
variable {l m:List Nat}(hl:DgU l)(hm:DgU m)
include hl hm
theorem cmpG:Fn Tryz.prog 274 [.d (enL l),.d (enL m)] [.d (.v (.int .i64 (cmpN (dval 4294967296 l) (dval 4294967296 m))))]:=
 ⟨⟨_,Tryz.func274,by kernel_rfl,by kernel_rfl⟩,fun S w vs hS hv=>by
   obtain⟨u,v,rfl,ha,hb⟩:=hv.two;obtain⟨a,c,rfl,q⟩:=limbIn hS ha hl;obtain⟨a',c',rfl,q'⟩:=limbIn hS hb hm;refine(cmp_any l m a a' _ _ c c' w _ _ q q').mono ?_;rintro e w' ⟨rfl,q,rfl⟩;exact⟨_,rfl,(Below.refl _ _).drN q,RD.v rfl⟩⟩
theorem addG(h1:l.length≤500000000)(h2:m.length≤500000000):Fn Tryz.prog 278 [.d (enL l),.d (enL m)] [.d (enL (limbs (dval 4294967296 l+dval 4294967296 m)))]:=
 ⟨⟨_,Tryz.func278,by kernel_rfl,by kernel_rfl⟩,fun S w vs hS hv=>by
   obtain⟨u,v,rfl,ha,hb⟩:=hv.two;obtain⟨a,c,rfl,q⟩:=limbIn hS ha hl;obtain⟨a',c',rfl,q'⟩:=limbIn hS hb hm;refine(add_any l m a a' _ _ c c' w q q' h1 h2).mono ?_;rintro e w' ⟨a,c,rfl,hx,hr⟩;exact⟨_,rfl,hx,limbOut hr⟩⟩
theorem mulG(h1:l.length≤500000000)(h2:m.length≤500000000):Fn Tryz.prog 243 [.d (enL l),.d (enL m)] [.d (enL (limbs (dval 4294967296 l*dval 4294967296 m)))]:=
 ⟨⟨_,Tryz.func243,by kernel_rfl,by kernel_rfl⟩,fun S w vs hS hv=>by
   obtain⟨u,v,rfl,ha,hb⟩:=hv.two;obtain⟨a,c,rfl,q⟩:=limbIn hS ha hl;obtain⟨a',c',rfl,q'⟩:=limbIn hS hb hm;refine(mul_any l m a a' _ _ c c' w q q' h1 h2).mono ?_;rintro e w' ⟨a,c,rfl,hx,hr⟩;exact⟨_,rfl,hx,limbOut hr⟩⟩
theorem gcdG(h1:l.length≤100000000)(h2:m.length≤100000000):Fn Tryz.prog 273 [.d (enL l),.d (enL m)] [.d (enL (limbs (Nat.gcd (dval 4294967296 l) (dval 4294967296 m))))]:=
 ⟨⟨_,Tryz.func273,by kernel_rfl,by kernel_rfl⟩,fun S w vs hS hv=>by
   obtain⟨u,v,rfl,ha,hb⟩:=hv.two;obtain⟨a,c,rfl,q⟩:=limbIn hS ha hl;obtain⟨a',c',rfl,q'⟩:=limbIn hS hb hm;refine(gcd_any l m a a' _ _ c c' w q q' h1 h2).mono ?_;rintro e w' ⟨a,c,rfl,hx,hr⟩;exact⟨_,rfl,hx,limbOut hr⟩⟩
theorem subLt(h:dval 4294967296 l<dval 4294967296 m):Fn Tryz.prog 279 [.d (enL l),.d (enL m)] [.d (enL (limbs 0)),.d (.v (.bool false))]:=
 ⟨⟨_,Tryz.func279,by kernel_rfl,by kernel_rfl⟩,fun S w vs hS hv=>by
   obtain⟨u,v,rfl,ha,hb⟩:=hv.two;obtain⟨a,c,rfl,q⟩:=limbIn hS ha hl;obtain⟨a',c',rfl,q'⟩:=limbIn hS hb hm;refine(sub_lt l m a a' _ _ c c' w q q' h).mono ?_;rintro e w' ⟨a,c,rfl,hx,hr⟩;refine⟨_,rfl,hx,[.slice a _ c,.bool false],rfl,rfl,fun i h h'=>?_⟩
   match i,h with
   | 0,_=>exact limbOut hr
   | 1,_=>exact .v rfl⟩
theorem subGe(h1:l.length≤500000000)(h:dval 4294967296 m≤dval 4294967296 l):Fn Tryz.prog 279 [.d (enL l),.d (enL m)] [.d (enL (limbs (dval 4294967296 l-dval 4294967296 m))),.d (.v (.bool true))]:=
 ⟨⟨_,Tryz.func279,by kernel_rfl,by kernel_rfl⟩,fun S w vs hS hv=>by
   obtain⟨u,v,rfl,ha,hb⟩:=hv.two;obtain⟨a,c,rfl,q⟩:=limbIn hS ha hl;obtain⟨a',c',rfl,q'⟩:=limbIn hS hb hm;refine(sub_ge l m a a' _ _ c c' w q q' h1 h).mono ?_;rintro e w' ⟨a,c,rfl,hx,hr⟩;refine⟨_,rfl,hx,[.slice a _ c,.bool true],rfl,rfl,fun i h h'=>?_⟩
   match i,h with
   | 0,_=>exact limbOut hr
   | 1,_=>exact .v rfl⟩
theorem divG(h1:l.length≤100000000)(h2:m.length≤100000000)(hy:0<dval 4294967296 m):Fn Tryz.prog 275 [.d (enL l),.d (enL m)] [.d (enL (limbs (dval 4294967296 l / dval 4294967296 m))),.d (enL (limbs (dval 4294967296 l % dval 4294967296 m))),.d (.v (.bool true))]:=
 ⟨⟨_,Tryz.func275,by kernel_rfl,by kernel_rfl⟩,fun S w vs hS hv=>by
   obtain⟨u,v,rfl,ha,hb⟩:=hv.two;obtain⟨a,c,rfl,q⟩:=limbIn hS ha hl;obtain⟨a',c',rfl,q'⟩:=limbIn hS hb hm;refine(divmod_any l m a a' _ _ c c' w q q' h1 h2 hy).mono ?_;rintro e w' ⟨a,c,a',c',rfl,hx,hr,hr'⟩;refine⟨_,rfl,hx,[.slice a _ c,.slice a' _ c',.bool true],rfl,rfl,fun i h h'=>?_⟩
   match i,h with
   | 0,_=>exact limbOut hr
   | 1,_=>exact limbOut hr'
   | 2,_=>exact .v rfl⟩
end
theorem wordG(u:Nat)(hu:u<18446744073709551616):Fn Tryz.prog 132 [.d (.v (.int .u64 (u:Int)))] [.d (enL (limbs u))]:=
 ⟨⟨_,Tryz.func132,by kernel_rfl,by kernel_rfl⟩,fun S w vs hS hv=>by
   obtain⟨v,rfl,ha⟩:=hv.one;have e1:v= .int .u64 (u:Int):=by cases ha;rfl
   subst e1;refine(word_any u w hu).mono ?_;rintro e w' ⟨a,c,rfl,hx,hr⟩;exact⟨_,rfl,hx,limbOut hr⟩⟩
theorem limbsDg(x:Nat):DgU (limbs x):=limbs_dg x
section
variable {x y:Nat}
theorem addU(h1:(limbs x).length≤500000000)(h2:(limbs y).length≤500000000):Fn Tryz.prog 278 [.d (enL (limbs x)),.d (enL (limbs y))] [.d (enL (limbs (x+y)))]:=by have:=addG (limbsDg x) (limbsDg y) h1 h2;rwa[limbs_val,limbs_val]at this
theorem mulU(h1:(limbs x).length≤500000000)(h2:(limbs y).length≤500000000):Fn Tryz.prog 243 [.d (enL (limbs x)),.d (enL (limbs y))] [.d (enL (limbs (x*y)))]:=by have:=mulG (limbsDg x) (limbsDg y) h1 h2;rwa[limbs_val,limbs_val]at this
theorem subLtU(h:x<y):Fn Tryz.prog 279 [.d (enL (limbs x)),.d (enL (limbs y))] [.d (enL []),.d (.v (.bool false))]:=by have:=subLt (limbsDg x) (limbsDg y) (by rwa[limbs_val,limbs_val]);rwa[limbs_zero]at this
theorem subGeU(h1:(limbs x).length≤500000000)(h:y≤x):Fn Tryz.prog 279 [.d (enL (limbs x)),.d (enL (limbs y))] [.d (enL (limbs (x-y))),.d (.v (.bool true))]:=by have:=subGe (limbsDg x) (limbsDg y) h1 (by rwa[limbs_val,limbs_val]);rwa[limbs_val,limbs_val]at this
end
end Go.Proofs.YtbbpecfapohlaaaGreatDoor
