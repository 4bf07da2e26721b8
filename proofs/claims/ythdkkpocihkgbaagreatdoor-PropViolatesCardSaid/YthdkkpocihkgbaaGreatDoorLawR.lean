import Derived.Test.YthdkkpocihkgbaaGreatDoorRatB
set_option maxRecDepth 100000
set_option maxHeartbeats 4000000
namespace Go.Proofs.YthdkkpocihkgbaaGreatDoor
open Go.RowKit
def ListAns(l:List Nat)(w:World):Ending→World→Prop:=fun e w'=>∃ a c,e= .returned (.slice a l.length c)∧Ext w w'∧Rp.lst.rel (Mo no w.heap.size w') w' [.slice a l.length c] l
theorem lst_part{S:Nat→Prop}{w:World}{l:List Nat}{a:Option Addr}{c j:Nat}(h:Rp.lst.rel S w [.slice a l.length c] l)(hj:j≤l.length):Rp.lst.rel S w [.slice a j c] (l.take j):=by
 obtain⟨a',c',e,h3,h4,h5⟩:=h;injection e with e;injection e with e1 e2 e3;subst e1 e3;have hl:(l.take j).length=j:=by simp;omega
 refine⟨a,c,by rw[hl],by rw[hl];omega,h4,fun hp=>?_⟩;rw[hl]at hp;obtain⟨b,o,ha,hb,hel⟩:=h5 (by omega);refine⟨b,o,ha,hb,?_⟩;intro i hi;rw[hl]at hi;have:=hel i (by omega);simpa using this
theorem few_any(l:List Nat)(a:Option Addr)(n c:Nat)(w:World)(h:Rp.lst.rel (Lt w.heap.size) w [.slice a n c] l):
  Calls Tryz.prog 165 #[.slice a n c] w (ListAns (l.take 8) w):=by
 obtain⟨rfl,h1,h2⟩:=lst_len h;by_cases h8:8<l.length
 ·have HC:=Lib.hid (copyU_any (l.take 8) a 8 c w (lst_part h (by omega)) (by simp;omega));clear h
  go_enter Tryz.func165,Tryz.ntmps165
  go_wp2_with fail
  refine HC.out.mono ?_;rintro e0 w0 ⟨p,r,rfl,hx,hr⟩;have HX:=Lib.hid hx;have HR:=Lib.hid hr;clear hx hr
  go_wp2_with fail
  go_ret
  exact⟨p,r,by rw[List.length_take];rfl,HX.out,HR.out⟩
 ·have HT:l.take 8=l:=List.take_of_length_le (by omega);rw[HT];clear HT;have HC:=Lib.hid (copyU_any l a l.length c w h (by omega));clear h
  go_enter Tryz.func165,Tryz.ntmps165
  go_wp2_with fail
  refine HC.out.mono ?_;rintro e0 w0 ⟨p,r,rfl,hx,hr⟩;have HX:=Lib.hid hx;have HR:=Lib.hid hr;clear hx hr
  go_wp2_with fail
  go_ret
  exact⟨p,r,rfl,HX.out,HR.out⟩
theorem rat_back(p:Rat):mkRat (sgn (decide (p.num<0)) p.num.natAbs) p.den=p:=by
 have:sgn (decide (p.num<0)) p.num.natAbs=p.num:=by
  unfold sgn;by_cases h:p.num<0
  ·rw[if_pos (by simpa using h)];omega
  ·rw[if_neg (by simpa using h)];omega
 rw[this];exact Rat.mkRat_self p
theorem ofL(x:Nat)(a:Option Addr)(c:Nat)(w:World)(h:Rp.lst.rel (Lt w.heap.size) w [.slice a (limbs x).length c] (limbs x))(hl:(limbs x).length≤10000000):
  Calls Tryz.prog 119 #[.slice a (limbs x).length c] w (BitAns x no w):=by
 have:=ofB_any (limbs x) a _ c w h hl;rwa[limbs_val]at this
theorem told_any(va:Value)(p:Rat)(w:World)(k:Nat)(ha:RatV (Lt w.heap.size) w va p)(h1:Bd k p)(hk:k≤10000000):
  Calls Tryz.prog 59 #[va] w (RatBAns p no w):=by
 have HP0:=fun W (hx:Ext w W)=>parts_any va p W k (ha.below hx) h1 (by omega);have HQ:=rat_back p;obtain⟨na,x,d,a1,a2,c1,c2,rfl,e1,e2,e3,r1,r2⟩:=ha.open;rw[e1,e2,e3]at HP0 HQ;have hxl:(limbs x).length≤10000000:=Nat.le_trans (limbs_len_le' (e2▸h1.1)) hk;have hdl:(limbs d).length≤10000000:=Nat.le_trans (limbs_len_le' (e3▸h1.2)) hk;have hxb:=bd_lenB (e2▸h1.1) (by omega:k≤100000000);have hdb:=bd_lenB (e3▸h1.2) (by omega:k≤100000000);have hdp:0<d:=by rw[←e3];exact Nat.pos_of_ne_zero p.den_nz
 have hd0:((↑(bits d).length:Int)==0)=false:=by
  have:=List.length_pos_iff.2 (fun e=>absurd (bits_eq_nil.1 e) (by omega):¬ bits d=[]);rw[beq_eq_false_iff_ne];omega
 have HL:=Lib.hid (And.intro hxl (And.intro hdl (And.intro hxb (And.intro hdb hdp))));have HP:=Lib.hid HP0;have HQQ:=Lib.hid HQ;clear HP0 HQ ha h1 hk e1 e2 e3 r1 r2 hxl hdl hxb hdb hdp
 go_enter Tryz.func59,Tryz.ntmps59
 go_wp2_with fail
 obtain⟨W,hW,ka,kc,kf,hxw,hwz⟩:=box2 w #[.bool na,.slice a1 (limbs x).length c1,.slice a2 (denL d).length c2] #[.bool false,.slice none 0 0,.slice none 0 0] 119 136;rw[←hW];have HX0:=Lib.hid hxw;have HT0:Hid (Thr (w.heap.size+1) (.bool false) (.slice none 0 0) (.slice none 0 0) W):=⟨kc 0,kc 1,kc 2,kf,hwz⟩
 clear hW ka kc kf hxw hwz;refine(HP.out W HX0.out).mono ?_;rintro e0 w1 ⟨p1,s1,p2,s2,rfl,hx1,hr1,hr2⟩;have HX1:=Lib.hid (HX0.out.tr hx1);have HR1:=Lib.hid (lst_lt hr1);have HR2:=Lib.hid (lst_lt hr2);have HT1:=Lib.hid (HT0.out.ext hx1);clear hx1 hr1 hr2
 go_wp2_with fail
 refine(ofL d p2 s2 w1 HR2.out HL.out.2.1).mono ?_;rintro e2 w2 ⟨p3,s3,rfl,hx2,hr3⟩;have HX2:=Lib.hid (HX1.out.tr hx2);have HU1:=Lib.hid (lst_ext HR1.out hx2);have HU2:=Lib.hid (lst_ext HR2.out hx2);have HT2:=Lib.hid (HT1.out.ext hx2);clear hx2 hr3
 go_wp2_with fail
 refine(ofL x p1 s1 w2 HU1.out HL.out.1).mono ?_;rintro e3 w3 ⟨p4,s4,rfl,hx3,hr4⟩;have HX3:=Lib.hid (HX2.out.tr hx3);have HV2:=Lib.hid (lst_ext HU2.out hx3);have HN:=Lib.hid (Rp.bl.keep hr4 (S':=fun b=>w.heap.size+1<b∧b<w3.heap.size) (w':=w3) fun b hb=>⟨⟨Nat.lt_of_lt_of_le HT2.out.lt (hb.1.resolve_left id),hb.2⟩,rfl⟩);have HT3:=Lib.hid (HT2.out.ext hx3);clear hx3 hr4
 go_wp2_with fail
 refine(ofL d p2 s2 w3 HV2.out HL.out.2.1).mono ?_;rintro e4 w4 ⟨p5,s5,rfl,hx4,hr5⟩;have HX4:=Lib.hid (HX3.out.tr hx4);have HN4:=Lib.hid (Rp.bl.keep HN.out (S':=fun b=>w.heap.size+1<b∧b<w4.heap.size) (w':=w4) fun b hb=>⟨⟨hb.1,Nat.lt_of_lt_of_le hb.2 hx4.size⟩,hx4.block b hb.2⟩);have HD4:=Lib.hid (Rp.bl.keep hr5 (S':=fun b=>w.heap.size+1<b∧b<w4.heap.size) (w':=w4) fun b hb=>⟨⟨Nat.lt_of_lt_of_le HT3.out.lt (hb.1.resolve_left id),hb.2⟩,rfl⟩);have HT4:=Lib.hid (HT3.out.ext hx4);clear hx4 hr5
 go_wp2_with fail
 refine(ofE x d p4 p5 s4 s5 w4 na HL.out.2.2.1 HL.out.2.2.2.1 HL.out.2.2.2.2 _ (fun _ hb=>hb.2) HN4.out HD4.out).mono ?_;rintro e5 w5 ⟨v5,rfl,hx5,hv5⟩;obtain⟨g0,gx,gd,g1,g2,g3,g4,rfl,q1,q2,q3,q4,q5⟩:=hv5.open;rw[HQQ.out]at q1 q2 q3;have HX5:=Lib.hid (HX4.out.tr hx5);have HQ4:=Lib.hid (And.intro q1 (And.intro q2 q3));have HQ5:=Lib.hid (And.intro q4 q5);have HT5:=HT4.out.ext hx5;have t0:=HT5.c0;have t1:=HT5.c1;have t2:=HT5.c2;have t3:=HT5.fr;have t4:=HT5.lt;have hz:Hid (w.heap.size+1<w4.heap.size):=HT4.out.lt;clear hx5 hv5 q1 q2 q3 q4 q5 HT5
 go_wp2_with fail
 refine bodyPost_ret (v:= .agg #[.bool g0,.slice g1 (bits gx).length g3,.slice g2 (bits gd).length g4]) (by simp[results,Tryz.results59,go_sem,t0,t1,t2]) rfl ?_;refine⟨_,rfl,(((HX5.out).st (by show w.heap.size≤w.heap.size+1;omega) _).st (by show w.heap.size≤w.heap.size+1;omega) _).st (by show w.heap.size≤w.heap.size+1;omega) _,RatB.mk HQ4.out.1 HQ4.out.2.1 HQ4.out.2.2 (Rp.bl.keep HQ5.out.1 ?_) (Rp.bl.keep HQ5.out.2 ?_)⟩
 all_goals
  intro b hb;have h1:w.heap.size+1<b:=by
   have hz':=hz.out;rcases hb.1 with h9 | h9
   ·exact h9.1
   ·omega
  have h2:b<w5.heap.size:=hb.2;have h3:b≠w.heap.size+1:=by omega
  exact⟨⟨.inr (by omega),by simpa[World.setCell] using h2⟩,by rw[far_cell h3,far_cell h3,far_cell h3]⟩
def barL(d:List Nat):List Nat:=if dval 4294967296 (d.take 8)=0 then [1]else d.take 8
def numQ(nb:Bool)(x d:List Nat):Rat:=mkRat (sgn nb (dval 4294967296 (x.take 8))) (dval 4294967296 (barL d))
theorem barL_pos(d:List Nat):0<dval 4294967296 (barL d):=by
 unfold barL;by_cases h:dval 4294967296 (d.take 8)=0
 ·rw[if_pos h];decide
 ·rw[if_neg h];omega
theorem barL_len(d:List Nat):(barL d).length≤8:=by
 unfold barL;by_cases h:dval 4294967296 (d.take 8)=0
 ·rw[if_pos h];decide
 ·rw[if_neg h];simp;omega
end Go.Proofs.YthdkkpocihkgbaaGreatDoor
